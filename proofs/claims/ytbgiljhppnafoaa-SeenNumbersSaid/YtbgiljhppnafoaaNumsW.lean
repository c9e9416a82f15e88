/- The walk of SeenNumbers. -/
import Derived.Test.YtbgiljhppnafoaaApartW
namespace Go.Proofs.Ytbgiljhppnafoaa
set_option linter.unusedVariables false
set_option linter.unusedSimpArgs false
open Go.RowKit

def dig (n : Nat) : ByteArray := ⟨#[UInt8.ofNat (48 + n)]⟩
theorem dig_inj {a b : Nat} (ha : a < 10) (hb : b < 10) (h : dig a = dig b) : a = b := by
  unfold dig at h
  injection h with h
  have h2 := congrArg (fun x => x.toList) h
  simp at h2
  have h3 := congrArg UInt8.toNat h2
  simp at h3
  omega
set_option maxHeartbeats 800000 in
theorem dec_small (n : Nat) (w : World) (h : n < 10) : Calls Try.prog 15 #[.int .i64 n] w fun e w' => e = .returned (.string (dig n)) ∧ Chg NoM w w' := by
  have d0 : (n : Int).tmod 10 = n := by rw [Int.tmod_eq_emod_of_nonneg (by omega)]; omega
  have d1 : ¬ ((n : Int) < 0) := by omega
  have d2 : -10 < (n : Int) := by omega
  have d3 : (n : Int) < 10 := by omega
  have hb : Bytes (w.alloc (.cells #[.int .u8 (48 + (n : Int))] 5)) (some ⟨w.heap.size, 0, none⟩) [UInt8.ofNat (48 + n)] := by
    refine bytes_blk (t := 5) (fr := (0, 0)) ?_ (by simp)
    rw [blk_new]
    congr 1
    congr 1
    simp [bvals]
    omega
  have hs : (convert 58 9 (.slice (some ⟨w.heap.size, 0, none⟩) 1 1)).run Try.prog (w.alloc (.cells #[.int .u8 (48 + (n : Int))] 5)) = .ok (.string (dig n)) (w.alloc (.cells #[.int .u8 (48 + (n : Int))] 5)) := run_string_bytes (P := Try.prog) _ 58 9 5 Try.underlying58 Try.underlying5 Try.underlying9 _ _ 1 hb
  clear hb
  go_enter Try.func15, Try.ntmps15
  go_wp2_with fail
  go_ret
  exact ⟨rfl, (Chg.refl w).alloc _⟩

theorem St.note_i {B sb n : Nat} {w : World} {m : Value → List Int} {key : Value} {kl : Lit} {x : Int} (h : St 57 3 B w sb n m) (hB : B ≤ w.heap.size) (hk : keyOf Try.prog 3 key = some kl) (hb : Bd m n) (hn : n ≤ 1000) :
    Calls Try.prog 14 #[.pointer (some ⟨sb, 0, none⟩), key, .int .i64 x] w fun e w' => ∃ r : Bool, e = .returned (.bool r) ∧ St 57 3 B w' sb n (tellM m n key x) ∧ Chg (IntM B) w w' := by
  by_cases hx : x ∈ m key
  · refine (h.note_no_i hk hx).mono ?_
    rintro e w' ⟨rfl, hc⟩
    have e : tellM m n key x = m := by unfold tellM; rw [if_pos hx]
    rw [e]
    exact ⟨false, rfl, h.chgNo hc, hc.ofNo⟩
  · refine (h.note_yes_i hB hk hx (Nat.le_trans (hb key) hn) hn).mono ?_
    rintro e w' ⟨rfl, hs, hc⟩
    have e : tellM m n key x = mset m key (noted n (m key) x) := by unfold tellM; rw [if_neg hx]
    rw [e]
    exact ⟨true, rfl, hs, hc⟩
theorem St.rowi {B sb most : Nat} {w w' : World} {m : Value → List Int} {v : Value} (h : St 57 3 B w sb most m) (hc : Chg (RowM v 37) w w') : St 57 3 B w' sb most m := h.row hc

def AlikeI (m : Value → List Int) (n : Nat) (L : List (ByteArray × Int)) : Prop := ∀ t : Nat, t < 3 → m (.int .i64 t) = refAll (dig t) n L
theorem AlikeI.told {m : Value → List Int} {n : Nat} {L : List (ByteArray × Int)} (h : AlikeI m n L) {t : Nat} {x : Int} (ht : t < 3) : AlikeI (tellM m n (.int .i64 t) x) n (L ++ [(dig t, x)]) := by
  intro u hu
  rw [refAll_snoc]
  unfold tell
  by_cases e : u = t
  · subst e
    unfold tellM
    rw [if_pos rfl, ← h u hu]
    split
    · rfl
    · rw [mset_same]
  · rw [tellM_ne _ _ _ _ _ (fun h => e (by injection h with _ h; omega)), if_neg (fun h => e (dig_inj (by omega) (by omega) h.symm)), h u hu]

set_option maxRecDepth 20000 in
set_option maxHeartbeats 8000000 in
theorem nums_walk (most : Int) (A : Option Addr) (ks : List Int) (c : Nat) (w : World) (h1 : -9223372036854775808 ≤ most) (h2 : most ≤ 9223372036854775807) (hks : IntsAt w A ks) :
    Calls Try.prog 4 #[.int .i64 most, .slice A ks.length c] w fun e w' => e = .returned (.bool true) ∧ Below w.heap.size w w' := by
  have HK := Lib.hid hks
  have kl := hks.2.1
  clear hks
  have hb := aroundI_bd most 5 (by omega)
  have A0 := Lib.hid (around_any most 5 w h1 h2 (by omega) (by omega))
  obtain ⟨a, ha⟩ : ∃ a : Nat, aroundI most 5 = a := ⟨(aroundI most 5).toNat, by omega⟩
  rw [ha] at hb A0
  clear ha
  obtain ⟨-, a2⟩ := hb
  go_enter Try.func4, Try.ntmps4
  go_wp2_with fail
  refine A0.out.mono ?_
  rintro e w1 ⟨rfl, rfl⟩
  go_wp2_with fail
  obtain ⟨n, hn⟩ : ∃ n : Nat, 1 + (a : Int) = n := ⟨1 + a, by omega⟩
  rw [hn]
  have n1 : 1 ≤ n := by omega
  have n2 : n ≤ 5 := by omega
  clear hn
  refine (St.new_i w w n (by omega) (by omega) (Nat.le_refl _)).mono ?_
  rintro e w1 ⟨sb, rfl, hsb, hs1, hc1⟩
  have S1 := Lib.hid hs1
  have C1 := Lib.hid hc1
  clear hs1 hc1
  go_wp2_with fail
  go_loopw [8, 9] (fun ov i wr => ∃ k : Nat, k ≤ ks.length ∧ k ≤ 12 ∧ i = .int .i64 k ∧ ∃ m L, Hid (Chg NoM w wr) ∧ Hid (St 57 3 w.heap.size wr sb n m) ∧ Hid (Bd m n) ∧ Hid (AlikeI m n L) ∧ Hid (L.length = k) ∧ Hid (Row wr w.heap.size 37 2 ov L.length (ncells L))) (fun _ i _ => 12 - (intOf i).toNat)
  case atStart => exact ⟨0, by omega, by omega, rfl, _, [], C1, S1, fun _ => by simp, fun _ _ => rfl, rfl, Row.nil _ _ _ _⟩
  case round =>
    obtain ⟨k, hk1, hk2, rfl, m, L, C, S, BD, AL, HL, OW⟩ := hrel
    obtain ⟨AO, cO, rfl, _, _⟩ := Row.slice OW.out
    by_cases hlt : k < ks.length ∧ k < 12
    · obtain ⟨ha, hb⟩ := hlt
      obtain ⟨b2, off2, hA2, hk2⟩ := HK.out.2.2 (by omega)
      subst hA2
      have hz := hk2 k _ (List.getElem?_eq_getElem ha)
      have hz2 := HK.out.1 _ (List.getElem_mem ha)
      obtain ⟨z, hzz⟩ : ∃ z, z = ks[k] := ⟨_, rfl⟩
      rw [← hzz] at hz hz2
      have e0 := C.out.cellNo hz
      have HZ := Lib.hid hz
      obtain ⟨z1, z2⟩ := hz2
      have i0 : (0 : Int) ≤ (k : Int) := by omega
      have i1 : (k : Int) < (ks.length : Int) := by omega
      clear hz hzz hk2
      go_wp2_with fail
      obtain ⟨g1, g2⟩ := aroundI_bd z 3 (by omega)
      refine (around_any z 3 _ z1 z2 (by omega) (by omega)).mono ?_
      rintro e w2 ⟨rfl, rfl⟩
      obtain ⟨t, ht⟩ : ∃ t : Nat, aroundI z 3 = t := ⟨(aroundI z 3).toNat, by omega⟩
      rw [ht] at g2 ⊢
      have t3 : t < 3 := by omega
      have hKt := Lib.hid (key_i (n := (t : Int)) (by omega) (by omega))
      clear g1 g2 ht
      go_wp2_with fail
      refine (St.note_i (x := z) S.out C.out.size hKt.out BD.out (by omega)).mono ?_
      rintro e w3 ⟨r, rfl, hs3, hc3⟩
      have S3 := Lib.hid hs3
      have C3 := Lib.hid (C.out.int hc3)
      have OW3 : Hid (Row w3 w.heap.size 37 2 (.slice AO L.length cO) L.length (ncells L)) := Row.chg OW.out hc3 (fun _ _ _ _ _ => IntM.ne (by decide))
      have e3 := Lib.hid (C3.out.cellNo HZ.out)
      have LK : L.length ≤ 12 := by have := HL.out; omega
      clear hs3 hc3 e0
      go_wp2_with fail
      refine wp_region_sig 9 (fun w' => Chg NoM w3 w') [.P [0, 1, 3, 4], .L [5, 6], .K 2, .P [7], .K 8, .N [9, 10]] rfl (fun _ _ d _ _ h => by cases d <;> exact h) (fun _ h => h) (by kernel_rfl) ((Chg.refl _).drew) ?_
      apply sigP (Nat.le_refl _)
      · intro w'
        (simp only [wpPl, pickOps, List.filterMap_cons, List.filterMap_nil, List.getElem?_toArray, List.getElem?_cons_zero, List.getElem?_cons_succ]; iterate 4 (go_wp2; refine ⟨trivial, ?_⟩)); rfl
      apply sigL (by simp)
      · intro w' hS
        have y0 := hS.cellNo e3.out
        (simp only [wpPl, pickOps, List.filterMap_cons, List.filterMap_nil, List.getElem?_toArray, List.getElem?_cons_zero, List.getElem?_cons_succ]; iterate 2 (go_wp2; refine ⟨trivial, ?_⟩)); rfl
      apply sigK
      simp only [pickOps, List.filterMap_cons, List.filterMap_nil, List.getElem?_toArray, List.getElem?_cons_zero, List.getElem?_cons_succ]
      go_wp2_with fail
      refine (dec_small t _ (by omega)).mono ?_
      rintro e w4 ⟨rfl, hc4⟩
      have C4 := Lib.hid ((Chg.refl w3).drew.trans hc4)
      clear hc4
      go_wp2_with fail
      refine ⟨C4.out, ?_⟩
      apply sigP (by simp)
      · intro w'
        (simp only [wpPl, pickOps, List.filterMap_cons, List.filterMap_nil, List.getElem?_toArray, List.getElem?_cons_zero, List.getElem?_cons_succ]; iterate 1 (go_wp2; refine ⟨trivial, ?_⟩)); rfl
      apply sigK
      simp only [pickOps, List.filterMap_cons, List.filterMap_nil, List.getElem?_toArray, List.getElem?_cons_zero, List.getElem?_cons_succ]
      go_wp2_with fail
      refine ⟨C4.out.alloc _, ?_⟩
      apply sigN
      simp only [pickOps, List.filterMap_cons, List.filterMap_nil, List.getElem?_toArray, List.getElem?_cons_zero, List.getElem?_cons_succ]
      refine wpList_append_Row _ rfl (.tmp 48) (.tmp 56) 34 rfl w.heap.size 37 _ 2 24 Try.underlying34 Try.info37 rfl (by omega) (.slice AO L.length cO) L.length (ncells L) rfl ?c0 (some ⟨w4.heap.size, 0, none⟩) 1 1 (ncells [(dig t, z)]) rfl rfl ?c1 ?c2 ?c3 ?c4 ?c5 ?_
      case c0 => exact Row.chg OW3.out (C4.out.alloc _) (fun _ _ _ _ _ h => h)
      case c1 => exact fun _ => ⟨_, rfl, news_blk (blk_new w4 _)⟩
      case c2 => intro u hu; simp [ncells] at hu; rcases hu with rfl | rfl <;> rfl
      case c3 => omega
      case c4 => omega
      case c5 => exact ((C3.out.trans C4.out).alloc (.cells #[.string (dig t), .int .i64 z] 37)).size
      intro v6 w6 R6
      have hr6 := R6.row
      rw [← ncells_append] at hr6
      obtain ⟨L2, hL2⟩ : ∃ L2, L2 = L ++ [(dig t, z)] := ⟨_, rfl⟩
      have hln : L.length + 1 = L2.length := by rw [hL2, List.length_append]; rfl
      rw [← hL2, hln] at hr6
      have HL2 : Hid (L2.length = k + 1) := by have := HL.out; show _ = _; omega
      have A6 := AL.out.told (x := z) t3
      rw [← hL2] at A6
      have HA6 := Lib.hid A6
      have C6 : Hid (Chg NoM w w6) := ((C3.out.trans C4.out).alloc _).thenAll R6.chg (fun i o h => Row.own_ge OW3.out h.own)
      have S6 : Hid (St 57 3 w.heap.size w6 sb n (tellM m n (.int .i64 t) z)) := (S3.out.chgNo (C4.out.alloc _)).row R6.chg
      have B6 := Lib.hid (BD.out.tell (.int .i64 t) z)
      have R6' := Lib.hid hr6
      obtain ⟨AV, cV, rfl, _, _⟩ := hr6.slice
      clear hr6 R6 hL2 hln A6
      go_wp2_with fail
      apply sigEnd
      go_wp2_with fail
      exact ⟨⟨k + 1, by omega, by omega, by go_num, _, L2, C6, S6, B6, HA6, HL2, R6'⟩, by simp [intOf]; omega⟩
    · have hex : (¬ k < ks.length) ∨ (k < ks.length ∧ ¬ k < 12) := by omega
      have LK : L.length ≤ 12 := by have := HL.out; omega
      have RS := OW
      rcases hex with hx | ⟨hx1, hx2⟩
      all_goals
        go_wp2_with fail
        go_loopw [11] (fun i wx => ∃ j : Nat, j ≤ 3 ∧ i = .int .i64 j ∧ Hid (Chg NoM wr wx)) (fun i _ => 3 - (intOf i).toNat)
        case atStart => exact ⟨0, by omega, rfl, Chg.refl _⟩
        case round =>
          obtain ⟨j, hj, rfl, D⟩ := hrel
          obtain ⟨wi, rfl⟩ : ∃ wi : World, wi = wr := ⟨_, rfl⟩
          by_cases hj3 : j < 3
          · have hKj := Lib.hid (key_i (n := (j : Int)) (by omega) (by omega))
            have Ml : (m (.int .i64 j)).length ≤ n := BD.out _
            obtain ⟨M, hM⟩ : ∃ M, M = m (.int .i64 j) := ⟨_, rfl⟩
            have HM := Lib.hid hM
            go_wp2_with fail
            refine ((S.out.chgNo D.out).all_i hKj.out (by omega)).mono ?_
            rintro e w7 ⟨v7, rfl, hr7, hc7⟩
            rw [← hM] at hr7 Ml
            clear hM
            obtain ⟨A7, c7, hv7, _, _⟩ := hr7.slice
            rw [imap_len] at hv7
            subst hv7
            have HR7 := Lib.hid hr7
            have D7 := Lib.hid (D.out.trans hc7)
            clear hr7 hc7
            go_wp2_with fail
            refine (dec_small j _ (by omega)).mono ?_
            rintro e w8 ⟨rfl, hc8⟩
            have HR8 := Lib.hid (HR7.out.chgNo hc8)
            have D8 := Lib.hid (D7.out.trans hc8)
            clear hc8
            go_wp2_with fail
            refine (refAll_any w.heap.size AO cO L (dig j) n w8 (Row.chg RS.out D8.out (fun _ _ _ _ _ h => h)) (by omega) (by omega)).mono ?_
            rintro e w9 ⟨v9, rfl, hr9, -, hc9⟩
            rw [← AL.out j hj3, ← HM.out] at hr9
            obtain ⟨A9, c9, hv9, _, _⟩ := hr9.slice
            rw [imap_len] at hv9
            subst hv9
            have SM := Lib.hid (same_true A7 A9 c7 c9 M w9 (HR8.out.chgNo hc9) hr9 (by omega))
            have D9 := Lib.hid (D8.out.trans hc9)
            clear hr9 hc9
            go_wp2_with fail
            refine SM.out.mono ?_
            rintro e w10 ⟨rfl, hc10⟩
            go_wp2_with fail
            exact ⟨⟨j + 1, by omega, by go_num, D9.out.trans hc10⟩, by simp [intOf]; omega⟩
          · obtain rfl : j = 3 := by omega
            go_wp2_with fail
            refine (lives_true _).mono ?_
            rintro e w5 ⟨rfl, hc5⟩
            go_wp2_with fail
            go_ret
            exact ⟨rfl, below_of_chg ((C.out.trans D.out).trans hc5)⟩
end Go.Proofs.Ytbgiljhppnafoaa
