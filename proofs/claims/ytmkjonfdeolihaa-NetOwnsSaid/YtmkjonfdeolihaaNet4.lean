/- Contracts of package net, fourth part: Copy, All. -/
import Derived.Test.YtmkjonfdeolihaaLives
namespace Go.Proofs.Ytmkjonfdeolihaa
set_option linter.unusedVariables false
set_option linter.unusedSimpArgs false
open Go.RowKit

theorem copy_no (base nb : Nat) (most lost k : Int) (l : List Pk) (v : Value) (w : World) (hnet : NetAt w base nb most l lost v) (hk : k < 0 ∨ (l.length : Int) ≤ k) :
    Calls Try.prog 21 #[.pointer (some ⟨nb, 0, none⟩), .int .i64 k] w fun e w' => e = .returned (.bool false) ∧ w = w' := by
  obtain ⟨Av, cv, rfl, hcv, hcv2⟩ := hnet.2.2.1.slice
  have k1 : w.cell? ⟨nb, 1, none⟩ = some (.slice Av l.length cv) := blk_cell hnet.2.1 1
  clear hnet
  by_cases h : k < 0
  · go_enter Try.func21, Try.ntmps21
    go_wp2
    go_ret
    exact ⟨rfl, rfl⟩
  · have h2 : (l.length : Int) ≤ k := by omega
    go_enter Try.func21, Try.ntmps21
    go_wp2
    go_ret
    exact ⟨rfl, rfl⟩

set_option maxHeartbeats 800000 in
theorem copy_yes (base nb : Nat) (most lost : Int) (k : Nat) (l : List Pk) (v : Value) (p : Pk) (w : World) (hnet : NetAt w base nb most l lost v) (hp : l[k]? = some p) (hpn : p.b.length ≤ 1000)
    (hlt : (l.length : Int) < most) (hm : most ≤ 1000) :
    Calls Try.prog 21 #[.pointer (some ⟨nb, 0, none⟩), .int .i64 k] w fun e w' => e = .returned (.bool true) ∧ ∃ bb v', w.heap.size ≤ bb ∧ NetAt w' base nb most (l ++ [⟨p.to, p.b, bb⟩]) lost v' ∧ Chg (NetX nb v) w w' := by
  have hk : k < l.length := (List.getElem?_eq_some_iff.1 hp).1
  obtain ⟨g, cap, hv, hbg, hcap, hcap2, ⟨cur, hcur, _⟩, hcells⟩ := hnet.2.2.1.cells (by omega)
  subst hv
  obtain ⟨hq0, hq1⟩ := pcells_at l k p hp
  have e0 := hcells _ _ hq0
  have e1 := hcells _ _ hq1
  have k1 : w.cell? ⟨nb, 1, none⟩ = some (.slice (some ⟨g, 0, none⟩) l.length cap) := blk_cell hnet.2.1 1
  have C := Lib.hid (put_yes base nb most lost l _ p.to (some ⟨p.blk, 0, none⟩) p.b.length p.b w hnet (bytes_blk (hnet.2.2.2 p (List.mem_of_getElem? hp)) (by omega)) hpn hlt hm)
  have i0 : ¬ ((k : Int) < 0) := by omega
  have i1 : ¬ ((l.length : Int) ≤ (k : Int)) := by omega
  clear hnet hcells hcur hp hq0 hq1
  go_enter Try.func21, Try.ntmps21
  go_wp2_with fail
  refine C.out.mono ?_
  rintro e w1 ⟨rfl, bb, v1, h1, h2, h3⟩
  have H1 := Lib.hid h1
  have H2 := Lib.hid h2
  have H3 := Lib.hid h3
  clear h1 h2 h3
  go_wp2
  go_ret
  exact ⟨rfl, bb, v1, H1.out, H2.out, H3.out⟩

set_option maxHeartbeats 800000 in
theorem copy_full (base nb : Nat) (most lost : Int) (k : Nat) (l : List Pk) (v : Value) (p : Pk) (w : World) (hnet : NetAt w base nb most l lost v) (hp : l[k]? = some p)
    (hge : most ≤ (l.length : Int)) (h0 : 0 ≤ lost) (h1 : lost ≤ 4611686018427387904) :
    Calls Try.prog 21 #[.pointer (some ⟨nb, 0, none⟩), .int .i64 k] w fun e w' => e = .returned (.bool false) ∧ NetAt w' base nb most l (lost + 1) v ∧ Chg (NetX nb v) w w' := by
  have hk : k < l.length := (List.getElem?_eq_some_iff.1 hp).1
  obtain ⟨g, cap, hv, hbg, hcap, hcap2, ⟨cur, hcur, _⟩, hcells⟩ := hnet.2.2.1.cells (by omega)
  subst hv
  obtain ⟨hq0, hq1⟩ := pcells_at l k p hp
  have e0 := hcells _ _ hq0
  have e1 := hcells _ _ hq1
  have k1 : w.cell? ⟨nb, 1, none⟩ = some (.slice (some ⟨g, 0, none⟩) l.length cap) := blk_cell hnet.2.1 1
  have C := Lib.hid (put_no base nb most lost l _ p.to (some ⟨p.blk, 0, none⟩) p.b.length p.b.length w hnet hge h0 h1)
  have i0 : ¬ ((k : Int) < 0) := by omega
  have i1 : ¬ ((l.length : Int) ≤ (k : Int)) := by omega
  clear hnet hcells hcur hp hq0 hq1
  go_enter Try.func21, Try.ntmps21
  go_wp2_with fail
  refine C.out.mono ?_
  rintro e w1 ⟨rfl, h2, h3⟩
  have H2 := Lib.hid h2
  have H3 := Lib.hid h3
  clear h2 h3
  go_wp2
  go_ret
  exact ⟨rfl, H2.out, H3.out⟩

def pdata (l : List Pk) : List (ByteArray × List UInt8) := l.map fun p => (p.to, p.b)
/-- A slice of packets in memory of their own from block B on. -/
def PksAt (w : World) (B : Nat) (v : Value) (L : List Pk) : Prop :=
  Row w B 36 2 v L.length (pcells L) ∧ PBytes w L ∧ ∀ p ∈ L, B ≤ p.blk

def AllInv (w wr : World) (l : List Pk) (k : Nat) (out : Value) : Prop := Chg NoM w wr ∧ ∃ L, PksAt wr w.heap.size out L ∧ L.length = k ∧ pdata L = pdata (l.take k)

set_option maxHeartbeats 1000000 in
theorem all_any (base nb : Nat) (most lost : Int) (l : List Pk) (v : Value) (w : World) (hnet : NetAt w base nb most l lost v) (hlen : l.length ≤ 1000) (hpn : ∀ p ∈ l, p.b.length ≤ 1000) :
    Calls Try.prog 18 #[.pointer (some ⟨nb, 0, none⟩)] w fun e w' => ∃ v' L, e = .returned v' ∧ PksAt w' w.heap.size v' L ∧ pdata L = pdata l ∧ Chg NoM w w' := by
  obtain ⟨Av, cv, rfl, hcv, hcv2⟩ := hnet.2.2.1.slice
  have k1 : w.cell? ⟨nb, 1, none⟩ = some (.slice Av l.length cv) := blk_cell hnet.2.1 1
  have HN := Lib.hid hnet
  have HPN := Lib.hid hpn
  clear hnet hpn
  go_enter Try.func18, Try.ntmps18
  go_wp2_with fail
  go_loopw [3, 11] (fun out i wr => ∃ k : Nat, k ≤ l.length ∧ i = .int .i64 k ∧ AllInv w wr l k out) (fun _ i _ => l.length - (intOf i).toNat)
  case atStart => exact ⟨0, by omega, rfl, Chg.refl w, [], ⟨Row.nil _ _ _ _, (fun p hp => by cases hp), (fun p hp => by cases hp)⟩, rfl, rfl⟩
  case round =>
    obtain ⟨k, hk, rfl, hc, L, hL, hLk, hLd⟩ := hrel
    by_cases hlt : k < l.length
    · obtain ⟨g, cap, hv, hbg, _, _, _, hcells⟩ := HN.out.2.2.1.cells (by omega)
      cases hv
      obtain ⟨p, hp⟩ : ∃ p, l[k]? = some p := ⟨_, List.getElem?_eq_getElem hlt⟩
      have hpm := List.mem_of_getElem? hp
      obtain ⟨hq0, hq1⟩ := pcells_at l k p hp
      have e0 := hc.cellNo (hcells _ _ hq0)
      have e1 := hc.cellNo (hcells _ _ hq1)
      have hpb := hc.blkNo (HN.out.2.2.2 p hpm)
      have hsz := hc.size
      have HC := Lib.hid hc
      have HL := Lib.hid hL
      have HLD := Lib.hid hLd
      have HP := Lib.hid hp
      have HPB := Lib.hid hpb
      have hpn := HPN.out p hpm
      have HLK := Lib.hid hLk
      have i0 : (0 : Int) ≤ (k : Int) := by omega
      have i1 : (k : Int) < (l.length : Int) := by omega
      clear hc hL hLd hp hq0 hq1 hcells hpb hLk hpm
      go_wp2_with fail
      refine (own_any p.to (some ⟨p.blk, 0, none⟩) p.b.length p.b _ (bytes_blk (blk_alloc HPB.out _) (by omega)) hpn).mono ?_
      rintro e w1 ⟨bb, rfl, hbb, hblk1, hc1⟩
      have C1 : Hid (Chg NoM wr w1) := ((Chg.refl wr).alloc _).trans hc1
      have BB : Hid (wr.heap.size ≤ bb) := Nat.le_trans (by simp) hbb
      have B1 := Lib.hid hblk1
      have S1 := C1.out.size
      clear hc1 hblk1 hbb
      obtain ⟨Ao, co, rfl, _, _⟩ := HL.out.1.slice
      go_wp2_with (refine wpList_append_Row _ rfl (.tmp 15) (.tmp 18) 51 rfl w.heap.size 36 _ 2 40 Try.underlying51 Try.info36 rfl (by omega) (.slice Ao L.length co) L.length (pcells L) rfl ?c0 (some ⟨w1.heap.size, 0, none⟩) 1 1 (pcells [⟨p.to, p.b, bb⟩]) rfl ?cx ?c1 ?c2 ?c3 ?c4 ?c5 ?_)
      case c0 => exact HL.out.1.chg (M := NoM) (C1.out.alloc _) (fun _ _ _ _ _ h => h)
      case cx => rfl
      case c1 => rw [pcells_one]; exact fun _ => ⟨_, rfl, news_blk (blk_new w1 _)⟩
      case c2 => intro u hu; rw [pcells_one] at hu; simp at hu; rcases hu with rfl | rfl <;> rfl
      case c3 => have := HLK.out; omega
      case c4 => have := HLK.out; omega
      case c5 => simp; omega
      intro v' w3 R
      have C3 : Hid (Chg NoM w w3) := (HC.out.trans (C1.out.alloc _)).thenAll R.chg (fun i o h => HL.out.1.own_ge h.own)
      have P3 : Hid (PBytes w3 (L ++ [⟨p.to, p.b, bb⟩])) := by
        intro q hq
        refine R.chg.block _ _ ?_ (RowM.ne (by decide))
        rcases List.mem_append.1 hq with h | h
        · exact (C1.out.alloc _).blkNo (HL.out.2.1 q h)
        · obtain rfl : q = ⟨p.to, p.b, bb⟩ := by simpa using h
          exact blk_alloc B1.out _
      have R3 : Hid (Row w3 w.heap.size 36 2 v' (L ++ [(⟨p.to, p.b, bb⟩ : Pk)]).length (pcells (L ++ [(⟨p.to, p.b, bb⟩ : Pk)]))) := by
        have := R.row
        rw [← pcells_append] at this
        rw [List.length_append, List.length_singleton]
        exact this
      clear R
      go_wp2_with fail
      refine ⟨⟨k + 1, by omega, by go_num, C3.out, L ++ [⟨p.to, p.b, bb⟩], ⟨R3.out, P3.out, ?_⟩, ?_, ?_⟩, by simp [intOf]; omega⟩
      · intro q hq
        rcases List.mem_append.1 hq with h | h
        · exact HL.out.2.2 q h
        · obtain rfl : q = ⟨p.to, p.b, bb⟩ := by simpa using h
          have := BB.out
          show w.heap.size ≤ bb
          omega
      · rw [List.length_append, HLK.out]; rfl
      · rw [pdata, List.map_append, show List.map (fun p => (p.to, p.b)) L = pdata L from rfl, HLD.out, List.take_add_one, HP.out]
        simp [pdata]
    · have HH : Hid (AllInv w wr l k u3) := ⟨hc, L, hL, hLk, hLd⟩
      clear hc hL hLk hLd
      go_wp2
      go_ret
      obtain ⟨hc, L, hL, hLk, hLd⟩ := HH.out
      exact ⟨_, L, rfl, hL, by rw [hLd, List.take_of_length_le (by omega)], hc⟩
end Go.Proofs.Ytmkjonfdeolihaa
