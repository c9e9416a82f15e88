/- The walk of SeenApart. -/
import Derived.Test.YtbgiljhppnafoaaSPlaysW
namespace Go.Proofs.Ytbgiljhppnafoaa
set_option linter.unusedVariables false
set_option linter.unusedSimpArgs false
open Go.RowKit

open Classical in
noncomputable def tellM (m : Value → List Int) (n : Nat) (key : Value) (x : Int) : Value → List Int := if x ∈ m key then m else mset m key (noted n (m key) x)
theorem tellM_ne (m : Value → List Int) (n : Nat) (key y : Value) (x : Int) (h : y ≠ key) : tellM m n key x y = m y := by
  unfold tellM
  split
  · rfl
  · exact mset_ne _ _ _ _ h
theorem tellM_same (m m' : Value → List Int) (n : Nat) (key : Value) (x : Int) (h : m key = m' key) : tellM m n key x key = tellM m' n key x key := by
  unfold tellM
  rw [← h]
  split
  · exact h
  · rw [mset_same, mset_same]
def Bd (m : Value → List Int) (n : Nat) : Prop := ∀ x, (m x).length ≤ n
theorem Bd.tell {m : Value → List Int} {n : Nat} (h : Bd m n) (key : Value) (x : Int) : Bd (tellM m n key x) n := by
  intro y
  by_cases e : y = key
  · subst e
    unfold tellM
    split
    · exact h y
    · rw [mset_same]; exact noted_len _ _ _ (h y)
  · rw [tellM_ne _ _ _ _ _ e]; exact h y

/-- Two memories beside each other. -/
def Two (B : Nat) (w : World) (sa sb n : Nat) (ma mb : Value → List Int) : Prop :=
  ∃ Sa Sb, SeenAt 53 9 w Sa sa n ma ∧ SeenAt 53 9 w Sb sb n mb ∧ (∀ g, Sa g → B ≤ g ∧ g < w.heap.size) ∧ (∀ g, Sb g → B ≤ g ∧ g < w.heap.size) ∧ ∀ g, Sa g → ¬ Sb g
theorem Two.chgNo {B sa sb n : Nat} {w w' : World} {ma mb : Value → List Int} (h : Two B w sa sb n ma mb) (hc : Chg NoM w w') : Two B w' sa sb n ma mb := by
  obtain ⟨Sa, Sb, h1, h2, h3, h4, h5⟩ := h
  have := hc.size
  exact ⟨Sa, Sb, h1.chgNo hc, h2.chgNo hc, fun g hg => ⟨(h3 g hg).1, by have := (h3 g hg).2; omega⟩, fun g hg => ⟨(h4 g hg).1, by have := (h4 g hg).2; omega⟩, h5⟩
theorem Two.swap {B sa sb n : Nat} {w : World} {ma mb : Value → List Int} (h : Two B w sa sb n ma mb) : Two B w sb sa n mb ma := by
  obtain ⟨Sa, Sb, h1, h2, h3, h4, h5⟩ := h
  exact ⟨Sb, Sa, h2, h1, h4, h3, fun g hg h => h5 g h hg⟩
theorem Two.left {B sa sb n : Nat} {w : World} {ma mb : Value → List Int} (h : Two B w sa sb n ma mb) : St 53 9 B w sa n ma := by
  obtain ⟨Sa, Sb, h1, h2, h3, h4, h5⟩ := h
  exact ⟨Sa, h1, h3⟩
theorem Two.note {B sa sb n : Nat} {w : World} {ma mb : Value → List Int} {key : Value} {kl : Lit} {x : Int} (h : Two B w sa sb n ma mb) (hB : B ≤ w.heap.size) (hk : keyOf Try.prog 9 key = some kl) (hb : Bd ma n) (hn : n ≤ 1000) :
    Calls Try.prog 10 #[.pointer (some ⟨sa, 0, none⟩), key, .int .i64 x] w fun e w' => ∃ r : Bool, e = .returned (.bool r) ∧ Two B w' sa sb n (tellM ma n key x) mb ∧ Chg (IntM B) w w' := by
  obtain ⟨Sa, Sb, h1, h2, h3, h4, h5⟩ := h
  by_cases hx : x ∈ ma key
  · refine (note_no_s Sa sa n ma key kl x w h1 hk hx).mono ?_
    rintro e w' ⟨rfl, hc⟩
    refine ⟨false, rfl, ?_, hc.ofNo⟩
    have e : tellM ma n key x = ma := by unfold tellM; rw [if_pos hx]
    rw [e]
    exact Two.chgNo ⟨Sa, Sb, h1, h2, h3, h4, h5⟩ hc
  · refine (note_yes_s Sa sa n ma key kl x w h1 hk hx (Nat.le_trans (hb key) hn) hn).mono ?_
    rintro e w' ⟨rfl, hs, hc⟩
    have hz := hc.size
    refine ⟨true, rfl, ⟨grow Sa w w', Sb, ?_, h2.chg hc (fun k hk => ⟨fun es c h => h5 k h.1 hk, fun c f h => h5 k h.1 hk⟩) (fun c f => SeenM.ne (by decide)), ?_, fun g hg => ⟨(h4 g hg).1, by have := (h4 g hg).2; omega⟩, ?_⟩, hc.mono (fun i o _ h => ⟨(h3 i h.1).1, h.2⟩)⟩
    · have e : tellM ma n key x = mset ma key (noted n (ma key) x) := by unfold tellM; rw [if_neg hx]
      rw [e]
      exact hs
    · rintro g (h | h)
      · exact ⟨(h3 g h).1, by have := (h3 g h).2; omega⟩
      · omega
    · rintro g (h | h) hg
      · exact h5 g h hg
      · have := (h4 g hg).2; omega
theorem StE.forget {B E sb most : Nat} {w : World} {m : Value → List Int} {key : Value} {kl : Lit} (h : StE 53 9 B E w sb most m) (hk : keyOf Try.prog 9 key = some kl) :
    Calls Try.prog 24 #[.pointer (some ⟨sb, 0, none⟩), key] w fun e w' => e = .returned (.tuple #[]) ∧ StE 53 9 B E w' sb most (mset m key []) ∧ Chg (IntE B E) w w' := by
  obtain ⟨S, h1, h2⟩ := h
  refine (forget_s S sb most m key kl w h1 hk).mono ?_
  rintro e w' ⟨rfl, hs, hc⟩
  exact ⟨rfl, ⟨S, hs, h2⟩, hc.mono (fun i o _ h => ⟨(h2 i h.1).1, (h2 i h.1).2, h.2⟩)⟩

/-- How many numbers there are of each thing. -/
def Lens (ds : List (ByteArray × Int)) (m : Value → List Int) (lens : List Int) : Prop := ∀ (i : Nat) d z, ds[i]? = some d → lens[i]? = some z → z = (m (.string (fewS d.1 2))).length

theorem StE.rowO {B E sb most : Nat} {w w' : World} {m : Value → List Int} {v : Value} (h : StE 53 9 B E w sb most m) (hv : ∀ g, rowBlk v = some g → E ≤ g) (hc : Chg (rowM v 3) w w') : StE 53 9 B E w' sb most m := by
  obtain ⟨S, h1, h2⟩ := h
  refine ⟨S, h1.chg hc (fun k hk => ⟨fun es c => ?_, fun c f => ?_⟩) (fun c f => rowM.ne (by decide)), h2⟩
  · rintro ⟨_, _, _, h⟩; cases h
  · rintro ⟨h, _⟩
    have := hv k h
    have := (h2 k hk).2
    omega

theorem fieldN (s : ByteArray) (x : Int) (W : World) : (Instr.field 37 (.agg #[.string s, .int .i64 x]) 0).run Try.prog W = .ok (.string s) W := by kernel_rfl
set_option maxRecDepth 100000 in
set_option maxHeartbeats 8000000 in
theorem apart_walk (most : Int) (A : Option Addr) (ds : List (ByteArray × Int)) (c : Nat) (s0 : ByteArray) (w : World) (h1 : -9223372036854775808 ≤ most) (h2 : most ≤ 9223372036854775807) (hds : RowsAt NoteR 2 w A ds) (hs0 : s0.size ≤ 9223372036854775807) :
    Calls Try.prog 7 #[.int .i64 most, .slice A ds.length c, .string s0] w fun e w' => e = .returned (.bool true) ∧ Below w.heap.size w w' := by
  have HD := Lib.hid hds
  have dl := hds.1
  have hfield := fieldN
  clear hds
  have hb := aroundI_bd most 5 (by omega)
  have A0 := Lib.hid (around_any most 5 w h1 h2 (by omega) (by omega))
  obtain ⟨a, ha⟩ : ∃ a : Nat, aroundI most 5 = a := ⟨(aroundI most 5).toNat, by omega⟩
  rw [ha] at hb A0
  clear ha
  obtain ⟨-, a2⟩ := hb
  go_enter Try.func7, Try.ntmps7
  go_wp2_with fail
  refine A0.out.mono ?_
  rintro e w1 ⟨rfl, rfl⟩
  go_wp2_with fail
  obtain ⟨n, hn⟩ : ∃ n : Nat, 1 + (a : Int) = n := ⟨1 + a, by omega⟩
  rw [hn]
  have n1 : 1 ≤ n := by omega
  have n2 : n ≤ 5 := by omega
  clear hn
  refine (new_yes_s n w (by omega) (by omega)).mono ?_
  rintro e w1 ⟨rfl, hs1, hz1, hc1⟩
  have HZ1 := Lib.hid hz1
  have S1 := Lib.hid hs1
  have C1 := Lib.hid hc1
  clear hs1 hc1 hz1
  go_wp2_with fail
  refine (new_yes_s n w1 (by omega) (by omega)).mono ?_
  rintro e w2 ⟨rfl, hs2, hz2, hc2⟩
  obtain ⟨sa, hsa⟩ : ∃ sa, sa = w.heap.size + 1 := ⟨_, rfl⟩
  obtain ⟨sb, hsb⟩ : ∃ sb, sb = w1.heap.size + 1 := ⟨_, rfl⟩
  rw [← hsa] at S1 ⊢
  rw [← hsb] at hs2 ⊢
  have T2 : Hid (Two w.heap.size w2 sa sb n (fun _ => []) (fun _ => [])) :=
    ⟨_, _, S1.out.chgNo hc2, hs2, fun g (hg : g = w.heap.size) => by have := HZ1.out; omega, fun g (hg : g = w1.heap.size) => by have := HZ1.out; omega, fun g (hg : g = w.heap.size) (hg' : g = w1.heap.size) => by have := HZ1.out; omega⟩
  have C2 := Lib.hid (C1.out.trans hc2)
  clear hs2 hc2 hz2 hsa hsb S1 HZ1
  go_wp2_with fail
  refine (few_any s0 2 w2 hs0 (by omega)).mono ?_
  rintro e w3 ⟨rfl, rfl⟩
  obtain ⟨s, hs⟩ : ∃ s, s = fewS s0 2 := ⟨_, rfl⟩
  have hs2 : s.size ≤ 1000 := by rw [hs]; have := fewS_size s0 2; omega
  rw [← hs]
  have hK := Lib.hid (key_s hs2)
  clear hs
  go_wp2_with fail
  go_loopw [12] (fun i wr => ∃ k : Nat, k ≤ ds.length ∧ k ≤ 16 ∧ i = .int .i64 k ∧ ∃ ma mb, Hid (Chg NoM w wr) ∧ Hid (Two w.heap.size wr sa sb n ma mb) ∧ Hid (Bd ma n) ∧ Hid (Bd mb n) ∧ Hid (ma (.string s) = mb (.string s))) (fun i _ => 16 - (intOf i).toNat)
  case atStart => exact ⟨0, by omega, by omega, rfl, _, _, C2, T2, fun _ => by simp, fun _ => by simp, rfl⟩
  case round =>
    obtain ⟨k, hk1, hk2, rfl, ma, mb, C, T, BA, BB, HE⟩ := hrel
    by_cases hlt : k < ds.length ∧ k < 16
    · obtain ⟨ha, hb⟩ := hlt
      obtain ⟨b, off, d, hA, e0, e1, hd, hbw, -⟩ := note_at HD.out C.out k ha
      subst hA
      obtain ⟨ps, x⟩ := d
      have i0 : (0 : Int) ≤ (k : Int) := by omega
      have i1 : (k : Int) < (ds.length : Int) := by omega
      go_wp2_with fail
      refine (fewN_any ps x wr hd).mono ?_
      rintro e w3 ⟨rfl, hc3⟩
      obtain ⟨t, ht⟩ : ∃ t, t = fewS ps 2 := ⟨_, rfl⟩
      have ht2 : t.size ≤ 1000 := by rw [ht]; have := fewS_size ps 2; omega
      rw [← ht]
      have C3 := Lib.hid (C.out.trans (hc3.alloc (.cells #[.string t, .int .i64 x] 37)))
      have T3 := Lib.hid (T.out.chgNo (hc3.alloc (.cells #[.string t, .int .i64 x] 37)))
      have bx3 := blk_new w3 (.cells #[.string t, .int .i64 x] 37)
      have BX3 := Lib.hid bx3
      have hKt := Lib.hid (key_s ht2)
      clear hc3 e0 e1 ht hd bx3
      go_wp2_with fail
      refine (Two.note (x := x) T3.out C3.out.size hKt.out BA.out (by omega)).mono ?_
      rintro e w4 ⟨r, rfl, ht4, hc4⟩
      have T4 := Lib.hid ht4
      have C4 := Lib.hid (C3.out.int hc4)
      have bx4 := hc4.block _ _ BX3.out (IntM.ne (by decide))
      clear ht4 hc4
      have bx4_c0 := blk_cell bx4 0; have bx4_f0 := blk_free bx4 0; have bx4_c1 := blk_cell bx4 1; have bx4_f1 := blk_free bx4 1; have H_bx4 := Lib.hid bx4; clear bx4
      by_cases hts : t = s
      · have hq := toList_eq hts
        have HT := Lib.hid hts
        clear hts
        go_wp2_with fail
        refine (Two.note (x := x) T4.out.swap C4.out.size hKt.out BB.out (by omega)).mono ?_
        rintro e w5 ⟨r, rfl, ht5, hc5⟩
        have T5 := Lib.hid ht5.swap
        have C5 := Lib.hid (C4.out.int hc5)
        clear ht5 hc5
        go_wp2_with fail
        refine ⟨⟨k + 1, by omega, by omega, by go_num, _, _, C5, T5, BA.out.tell _ _, BB.out.tell _ _, ?_⟩, by simp [intOf]; omega⟩
        show _ = _
        rw [HT.out]
        exact tellM_same _ _ _ _ _ HE.out
      · have hq := toList_ne hts
        have HT := Lib.hid hts
        clear hts
        go_wp2_with fail
        refine ⟨⟨k + 1, by omega, by omega, by go_num, _, _, C4, T4, BA.out.tell _ _, BB, ?_⟩, by simp [intOf]; omega⟩
        show _ = _
        rw [tellM_ne _ _ _ _ _ (fun h => HT.out (by injection h with h; exact h.symm))]
        exact HE.out
    · have hex : (¬ k < ds.length) ∨ (k < ds.length ∧ ¬ k < 16) := by omega
      rcases hex with hx | ⟨hx1, hx2⟩
      · have hx0 := hx
        have hx00 : True := trivial
        clear hx
        go_wp2_with fail
        clear hk1 hk2 hx0 hx00
        refine (T.out.left.all_s hK.out (by have := BA.out (.string s); omega)).mono ?_
        rintro e w3 ⟨v3, rfl, hr3, hc3⟩
        obtain ⟨M, hM⟩ : ∃ M, M = ma (.string s) := ⟨_, rfl⟩
        have Ml : M.length ≤ n := by rw [hM]; exact BA.out _
        rw [← hM] at hr3
        obtain ⟨A3, c3, hv3, _, _⟩ := hr3.slice
        rw [imap_len] at hv3
        subst hv3
        have HR3 := Lib.hid hr3
        have T3 := Lib.hid (T.out.chgNo hc3)
        have C3 := Lib.hid (C.out.trans hc3)
        have HM2 : Hid (mb (.string s) = M) := by show _ = _; rw [hM]; exact HE.out.symm
        clear hr3 hc3 hM
        go_wp2_with fail
        refine (T3.out.swap.left.all_s hK.out (by have := BB.out (.string s); omega)).mono ?_
        rintro e w4 ⟨v4, rfl, hr4, hc4⟩
        rw [HM2.out] at hr4
        obtain ⟨A4, c4, hv4, _, _⟩ := hr4.slice
        rw [imap_len] at hv4
        subst hv4
        have SM := Lib.hid (same_true A3 A4 c3 c4 M w4 (HR3.out.chgNo hc4) hr4 (by omega))
        have T4 := Lib.hid (T3.out.chgNo hc4)
        have C4 := Lib.hid (C3.out.trans hc4)
        clear hr4 hc4
        go_wp2_with fail
        refine SM.out.mono ?_
        rintro e w5 ⟨rfl, hc5⟩
        have SA0 := Lib.hid (T4.out.chgNo hc5).left
        have C5 := Lib.hid (C4.out.trans hc5)
        clear hc5
        obtain ⟨E, hE⟩ : ∃ E, E = w5.heap.size := ⟨_, rfl⟩
        have SA5 : Hid (StE 53 9 w.heap.size E w5 sa n ma) := by rw [hE]; exact SA0.out
        have E0 : Hid (w.heap.size ≤ E) := by rw [hE]; exact C5.out.size
        have E5 : Hid (E ≤ w5.heap.size) := by rw [hE]; exact Nat.le_refl _
        have BAo := BA
        clear hE SA0 T T3 T4
        go_wp2_with fail
        clear BA BB HE HM2 SM HR3
        go_loopw [14, 15] (fun ov i wr => ∃ k : Nat, k ≤ ds.length ∧ k ≤ 16 ∧ i = .int .i64 k ∧ ∃ lens, Hid (Chg NoM w wr) ∧ Hid (StE 53 9 w.heap.size E wr sa n ma) ∧ Hid (RowO wr 3 ov (imap lens)) ∧ Hid (∀ g, rowBlk ov = some g → E ≤ g) ∧ Hid (Lens ds ma lens) ∧ Hid (lens.length = k) ∧ Hid (E ≤ wr.heap.size)) (fun _ i _ => 16 - (intOf i).toNat)
        case atStart => exact ⟨0, by omega, by omega, rfl, [], C5, SA5, RowO.nil _ _, (fun g hg => by simp [rowBlk] at hg), (fun i d z _ h => by simp at h), rfl, E5⟩
        case round =>
          obtain ⟨k, hk1, hk2, rfl, lens, C, SA, RO, RB, LN, HL, EW⟩ := hrel
          obtain ⟨AO, cO, rfl, _, _⟩ := RO.out.slice
          rw [imap_len] at RO RB ⊢
          by_cases hlt : k < ds.length ∧ k < 16
          · obtain ⟨ha, hb⟩ := hlt
            obtain ⟨b, off, d, hA, e0, e1, hd, hbw, hdk⟩ := note_at HD.out C.out k ha
            subst hA
            have HDK := Lib.hid hdk
            obtain ⟨ps, x⟩ := d
            have i0 : (0 : Int) ≤ (k : Int) := by omega
            have i1 : (k : Int) < (ds.length : Int) := by omega
            clear hdk
            go_wp2_with fail
            refine (fewN_any ps x wr hd).mono ?_
            rintro e w6 ⟨rfl, hc6⟩
            obtain ⟨t, ht⟩ : ∃ t, t = fewS ps 2 := ⟨_, rfl⟩
            have ht2 : t.size ≤ 1000 := by rw [ht]; have := fewS_size ps 2; omega
            rw [← ht]
            have HT := Lib.hid ht
            have hKt := Lib.hid (key_s ht2)
            have C6 := Lib.hid hc6
            have LK1 : lens.length ≤ 16 := by have := HL.out; omega
            clear hc6 e0 e1 ht hd
            go_wp2_with fail
            refine (St.len_s ((StE.chgNo SA.out C6.out).st (Nat.le_trans EW.out C6.out.size)) hKt.out).mono ?_
            rintro e w7 ⟨rfl, rfl⟩
            obtain ⟨z, hz⟩ : ∃ z : Int, z = ((ma (.string t)).length : Int) := ⟨_, rfl⟩
            rw [← hz]
            have HZ := Lib.hid hz
            clear hz
            go_wp2_with (refine wpList_append_O _ rfl (.tmp 96) (.tmp 105) 30 rfl 3 (.int .i64 0) 8 Try.underlying30 Try.info3 rfl (.slice AO lens.length cO) (imap lens) rfl ?c0 (some ⟨w6.heap.size, 0, none⟩) 1 1 [.int .i64 z] rfl rfl ?c1 ?c2 ?c3 ?c4 ?_)
            case c0 => exact RO.out.chgNo (C6.out.alloc _)
            case c1 => exact fun _ => ⟨_, rfl, news_blk (blk_new w6 _)⟩
            case c2 => intro u hu; simp at hu; rw [hu]; rfl
            case c3 => rw [imap_len]; omega
            case c4 => rw [imap_len]; omega
            intro v7 w7 R
            have hr := R.row
            rw [show imap lens ++ [Value.int .i64 z] = imap (lens ++ [z]) by simp [imap]] at hr
            have C7 : Hid (Chg NoM w w7) := (C.out.trans (C6.out.alloc _)).thenAll R.chg (fun i o h => Nat.le_trans E0.out (RB.out i h.1))
            have SA7 : Hid (StE 53 9 w.heap.size E w7 sa n ma) := (StE.chgNo SA.out (C6.out.alloc _)).rowO RB.out R.chg
            have hz6 := C6.out.size
            have EW7 : Hid (E ≤ w7.heap.size) := by have := R.chg.size; simp at this; have := EW.out; show _ ≤ _; omega
            have RB7 : Hid (∀ g, rowBlk v7 = some g → E ≤ g) := by
              intro g hg
              rcases R.own g hg with h | h
              · exact RB.out g h
              · simp at h; have := EW.out; omega
            have LN7 : Hid (Lens ds ma (lens ++ [z])) := by
              intro i d' z' hd' hz'
              by_cases hi : i < lens.length
              · rw [List.getElem?_append_left hi] at hz'
                exact LN.out i d' z' hd' hz'
              · have hk := HL.out
                have hi2 := (List.getElem?_eq_some_iff.1 hz').1
                rw [List.length_append, List.length_singleton] at hi2
                obtain rfl : i = k := by omega
                rw [HDK.out] at hd'
                cases hd'
                rw [← hk, List.getElem?_append_right (Nat.le_refl _)] at hz'
                simp at hz'
                rw [← hz', HZ.out, HT.out]
            obtain ⟨A7, c7, rfl, _, _⟩ := hr.slice
            have R7 := Lib.hid hr
            clear R hr hz6
            go_wp2_with fail
            refine ⟨⟨k + 1, by omega, by omega, by go_num, lens ++ [z], C7, SA7, R7, RB7, LN7, ?_, EW7⟩, by simp [intOf]; omega⟩
            show _ = _
            rw [List.length_append, HL.out]
            rfl
          · have hex : (¬ k < ds.length) ∨ (k < ds.length ∧ ¬ k < 16) := by omega
            rcases hex with hx | ⟨hx1, hx2⟩
            · have hx0 := hx
              go_wp2_with fail
              refine (StE.forget SA.out hK.out).mono ?_
              rintro e w8 ⟨rfl, hsf, hcf⟩
              have SF := Lib.hid hsf
              have CF := Lib.hid (C.out.thenAll hcf (fun i o h => h.1))
              have RF := Lib.hid (RO.out.chg hcf (fun g c f hg h => by have := RB.out g hg; have := h.2.1; omega))
              have LK0 : lens.length ≤ ds.length := by have := HL.out; omega
              have LK1 : lens.length ≤ 16 := by have := HL.out; omega
              have EF : Hid (E ≤ w8.heap.size) := Nat.le_trans EW.out hcf.size
              clear hsf hcf
              go_wp2_with fail
              go_loopw [16] (fun i wr => ∃ j : Nat, j ≤ lens.length ∧ i = .int .i64 j ∧ Hid (Chg NoM w8 wr)) (fun i _ => lens.length - (intOf i).toNat)
              case atStart => exact ⟨0, by omega, rfl, Chg.refl _⟩
              case round =>
                obtain ⟨j, hj, rfl, D⟩ := hrel
                obtain ⟨wi, rfl⟩ : ∃ wi : World, wi = wr := ⟨_, rfl⟩
                by_cases hjl : j < lens.length
                · obtain ⟨b, off, d, hA, e0, e1, hd, hbw, hdj⟩ := note_at HD.out (CF.out.trans D.out) j (by omega)
                  subst hA
                  have hz := List.getElem?_eq_getElem hjl
                  have hzz := LN.out j d _ hdj hz
                  obtain ⟨g, og, rfl, hgb, hcell⟩ := (RF.out.chgNo D.out).at (by rw [imap_len]; omega)
                  have ez := hcell j _ (imap_get lens j _ hz)
                  obtain ⟨z, hzdef⟩ : ∃ z, z = lens[j] := ⟨_, rfl⟩
                  rw [← hzdef] at ez hzz
                  obtain ⟨ps, x⟩ := d
                  have EZ := Lib.hid ez
                  have HZZ := Lib.hid hzz
                  have i0 : (0 : Int) ≤ (j : Int) := by omega
                  have i1 : (j : Int) < (ds.length : Int) := by omega
                  have i2 : (j : Int) < (lens.length : Int) := by omega
                  clear hz hzdef hcell hdj ez hzz
                  go_wp2_with fail
                  refine (fewN_any ps x wi hd).mono ?_
                  rintro e w9 ⟨rfl, hc9⟩
                  obtain ⟨t, ht⟩ : ∃ t, t = fewS ps 2 := ⟨_, rfl⟩
                  have ht2 : t.size ≤ 1000 := by rw [ht]; have := fewS_size ps 2; omega
                  rw [← ht]
                  have HT := Lib.hid ht
                  have bx9 := blk_new w9 (.cells #[.string t, .int .i64 x] 37)
                  have BX9 := Lib.hid bx9
                  have hKt := Lib.hid (key_s ht2)
                  have D9 := Lib.hid (D.out.trans (hc9.alloc (.cells #[.string t, .int .i64 x] 37)))
                  have EZ9 := Lib.hid ((hc9.alloc (.cells #[.string t, .int .i64 x] 37)).cellNo EZ.out)
                  clear hc9 e0 e1 ht hd bx9
                  go_wp2_with fail
                  generalize w9.alloc (.cells #[.string t, .int .i64 x] 37) = w10 at BX9 D9 EZ9 ⊢
                  have SX := Lib.hid ((StE.chgNo SF.out D9.out).st (Nat.le_trans EF.out D9.out.size))
                  by_cases hts : t = s
                  · have hq := toList_eq hts
                    clear hts
                    refine wp_region_sig 14 (fun w' => Chg NoM w10 w') [.P [0, 2], .L [1], .P [3, 4, 5, 6, 9, 10], .L [7, 11, 12], .K 8, .P [13], .N [14]] rfl (fun _ _ d _ _ h => by cases d <;> exact h) (fun _ h => h) (by kernel_rfl) ((Chg.refl _).drew) ?_
                    apply sigP (Nat.le_refl _)
                    · intro w'
                      (simp only [wpPl, pickOps, List.filterMap_cons, List.filterMap_nil, List.getElem?_toArray, List.getElem?_cons_zero, List.getElem?_cons_succ]; iterate 2 (go_wp2; refine ⟨trivial, ?_⟩)); rfl
                    apply sigL (by simp)
                    · intro w' hS
                      have y0 := blk_cell (hS.blkNo BX9.out) 0
                      (simp only [wpPl, pickOps, List.filterMap_cons, List.filterMap_nil, List.getElem?_toArray, List.getElem?_cons_zero, List.getElem?_cons_succ]; iterate 1 (go_wp2; refine ⟨trivial, ?_⟩)); rfl
                    apply sigP (by simp)
                    · intro w'
                      (simp only [wpPl, pickOps, List.filterMap_cons, List.filterMap_nil, List.getElem?_toArray, List.getElem?_cons_zero, List.getElem?_cons_succ]; iterate 6 (go_wp2; refine ⟨trivial, ?_⟩)); rfl
                    apply sigL (by simp)
                    · intro w' hS
                      have y0 := blk_cell (hS.blkNo BX9.out) 0
                      have y1 := hS.cellNo EZ9.out
                      (simp only [wpPl, pickOps, List.filterMap_cons, List.filterMap_nil, List.getElem?_toArray, List.getElem?_cons_zero, List.getElem?_cons_succ]; iterate 3 (go_wp2; refine ⟨trivial, ?_⟩)); rfl
                    apply sigK
                    simp only [pickOps, List.filterMap_cons, List.filterMap_nil, List.getElem?_toArray, List.getElem?_cons_zero, List.getElem?_cons_succ]
                    go_wp2_with fail
                    refine ⟨(Chg.refl w10).drew, ?_⟩
                    apply sigP (by simp)
                    · intro w'
                      (simp only [wpPl, pickOps, List.filterMap_cons, List.filterMap_nil, List.getElem?_toArray, List.getElem?_cons_zero, List.getElem?_cons_succ]; iterate 1 (go_wp2; refine ⟨trivial, ?_⟩)); rfl
                    apply sigN
                    simp only [pickOps, List.filterMap_cons, List.filterMap_nil, List.getElem?_toArray, List.getElem?_cons_zero, List.getElem?_cons_succ]
                    go_wp2_with fail
                    apply sigEnd
                    go_wp2_with fail
                    exact ⟨⟨j + 1, by omega, by go_num, D9.out.drew⟩, by simp [intOf]; omega⟩
                  · have hq := toList_ne hts
                    have hzt : Hid (z = (mset ma (.string s) [] (.string t)).length) := by
                      show _ = _
                      rw [mset_ne _ _ _ _ (fun h => hts (by injection h)), HZZ.out, HT.out]
                    clear hts
                    refine wp_region_sig 14 (fun w' => Chg NoM w10 w') [.P [0, 2], .L [1], .P [3, 4, 5, 6, 9, 10], .L [7, 11, 12], .K 8, .P [13], .N [14]] rfl (fun _ _ d _ _ h => by cases d <;> exact h) (fun _ h => h) (by kernel_rfl) ((Chg.refl _).drew) ?_
                    apply sigP (Nat.le_refl _)
                    · intro w'
                      (simp only [wpPl, pickOps, List.filterMap_cons, List.filterMap_nil, List.getElem?_toArray, List.getElem?_cons_zero, List.getElem?_cons_succ]; iterate 2 (go_wp2; refine ⟨trivial, ?_⟩)); rfl
                    apply sigL (by simp)
                    · intro w' hS
                      have y0 := blk_cell (hS.blkNo BX9.out) 0
                      (simp only [wpPl, pickOps, List.filterMap_cons, List.filterMap_nil, List.getElem?_toArray, List.getElem?_cons_zero, List.getElem?_cons_succ]; iterate 1 (go_wp2; refine ⟨trivial, ?_⟩)); rfl
                    apply sigP (by simp)
                    · intro w'
                      (simp only [wpPl, pickOps, List.filterMap_cons, List.filterMap_nil, List.getElem?_toArray, List.getElem?_cons_zero, List.getElem?_cons_succ]; iterate 6 (go_wp2; refine ⟨trivial, ?_⟩)); rfl
                    apply sigL (by simp)
                    · intro w' hS
                      have y0 := blk_cell (hS.blkNo BX9.out) 0
                      have y1 := hS.cellNo EZ9.out
                      (simp only [wpPl, pickOps, List.filterMap_cons, List.filterMap_nil, List.getElem?_toArray, List.getElem?_cons_zero, List.getElem?_cons_succ]; iterate 3 (go_wp2; refine ⟨trivial, ?_⟩)); rfl
                    apply sigK
                    simp only [pickOps, List.filterMap_cons, List.filterMap_nil, List.getElem?_toArray, List.getElem?_cons_zero, List.getElem?_cons_succ]
                    go_wp2_with fail
                    refine (St.len_s (SX.out.chgNo (Chg.refl w10).drew) hKt.out).mono ?_
                    rintro e w11 ⟨rfl, rfl⟩
                    rw [← hzt.out]
                    go_wp2_with fail
                    refine ⟨(Chg.refl w10).drew, ?_⟩
                    apply sigP (by simp)
                    · intro w'
                      (simp only [wpPl, pickOps, List.filterMap_cons, List.filterMap_nil, List.getElem?_toArray, List.getElem?_cons_zero, List.getElem?_cons_succ]; iterate 1 (go_wp2; refine ⟨trivial, ?_⟩)); rfl
                    apply sigN
                    simp only [pickOps, List.filterMap_cons, List.filterMap_nil, List.getElem?_toArray, List.getElem?_cons_zero, List.getElem?_cons_succ]
                    go_wp2_with fail
                    apply sigEnd
                    go_wp2_with fail
                    exact ⟨⟨j + 1, by omega, by go_num, D9.out.drew⟩, by simp [intOf]; omega⟩
                · have SX := Lib.hid ((StE.chgNo SF.out D.out).st (Nat.le_trans EF.out D.out.size))
                  have CX := Lib.hid (CF.out.trans D.out)
                  go_wp2_with fail
                  refine (SX.out.len_s hK.out).mono ?_
                  rintro e w9 ⟨rfl, rfl⟩
                  rw [mset_same]
                  go_wp2_with fail
                  refine (SX.out.all_s hK.out (by rw [mset_same]; simp)).mono ?_
                  rintro e w9 ⟨v9, rfl, hr9, hc9⟩
                  rw [mset_same] at hr9
                  obtain ⟨A9, c9, hv9, _, _⟩ := hr9.slice
                  change v9 = .slice A9 0 c9 at hv9
                  subst hv9
                  have C9 := Lib.hid (CX.out.trans hc9)
                  clear hr9 hc9
                  go_wp2_with fail
                  refine (lives_true _).mono ?_
                  rintro e w10 ⟨rfl, hc10⟩
                  go_wp2_with fail
                  go_ret
                  exact ⟨rfl, below_of_chg (C9.out.trans hc10)⟩
            · have hx0 := hx1
              go_wp2_with fail
              refine (StE.forget SA.out hK.out).mono ?_
              rintro e w8 ⟨rfl, hsf, hcf⟩
              have SF := Lib.hid hsf
              have CF := Lib.hid (C.out.thenAll hcf (fun i o h => h.1))
              have RF := Lib.hid (RO.out.chg hcf (fun g c f hg h => by have := RB.out g hg; have := h.2.1; omega))
              have LK0 : lens.length ≤ ds.length := by have := HL.out; omega
              have LK1 : lens.length ≤ 16 := by have := HL.out; omega
              have EF : Hid (E ≤ w8.heap.size) := Nat.le_trans EW.out hcf.size
              clear hsf hcf
              go_wp2_with fail
              go_loopw [16] (fun i wr => ∃ j : Nat, j ≤ lens.length ∧ i = .int .i64 j ∧ Hid (Chg NoM w8 wr)) (fun i _ => lens.length - (intOf i).toNat)
              case atStart => exact ⟨0, by omega, rfl, Chg.refl _⟩
              case round =>
                obtain ⟨j, hj, rfl, D⟩ := hrel
                obtain ⟨wi, rfl⟩ : ∃ wi : World, wi = wr := ⟨_, rfl⟩
                by_cases hjl : j < lens.length
                · obtain ⟨b, off, d, hA, e0, e1, hd, hbw, hdj⟩ := note_at HD.out (CF.out.trans D.out) j (by omega)
                  subst hA
                  have hz := List.getElem?_eq_getElem hjl
                  have hzz := LN.out j d _ hdj hz
                  obtain ⟨g, og, rfl, hgb, hcell⟩ := (RF.out.chgNo D.out).at (by rw [imap_len]; omega)
                  have ez := hcell j _ (imap_get lens j _ hz)
                  obtain ⟨z, hzdef⟩ : ∃ z, z = lens[j] := ⟨_, rfl⟩
                  rw [← hzdef] at ez hzz
                  obtain ⟨ps, x⟩ := d
                  have EZ := Lib.hid ez
                  have HZZ := Lib.hid hzz
                  have i0 : (0 : Int) ≤ (j : Int) := by omega
                  have i1 : (j : Int) < (ds.length : Int) := by omega
                  have i2 : (j : Int) < (lens.length : Int) := by omega
                  clear hz hzdef hcell hdj ez hzz
                  go_wp2_with fail
                  refine (fewN_any ps x wi hd).mono ?_
                  rintro e w9 ⟨rfl, hc9⟩
                  obtain ⟨t, ht⟩ : ∃ t, t = fewS ps 2 := ⟨_, rfl⟩
                  have ht2 : t.size ≤ 1000 := by rw [ht]; have := fewS_size ps 2; omega
                  rw [← ht]
                  have HT := Lib.hid ht
                  have bx9 := blk_new w9 (.cells #[.string t, .int .i64 x] 37)
                  have BX9 := Lib.hid bx9
                  have hKt := Lib.hid (key_s ht2)
                  have D9 := Lib.hid (D.out.trans (hc9.alloc (.cells #[.string t, .int .i64 x] 37)))
                  have EZ9 := Lib.hid ((hc9.alloc (.cells #[.string t, .int .i64 x] 37)).cellNo EZ.out)
                  clear hc9 e0 e1 ht hd bx9
                  go_wp2_with fail
                  generalize w9.alloc (.cells #[.string t, .int .i64 x] 37) = w10 at BX9 D9 EZ9 ⊢
                  have SX := Lib.hid ((StE.chgNo SF.out D9.out).st (Nat.le_trans EF.out D9.out.size))
                  by_cases hts : t = s
                  · have hq := toList_eq hts
                    clear hts
                    refine wp_region_sig 14 (fun w' => Chg NoM w10 w') [.P [0, 2], .L [1], .P [3, 4, 5, 6, 9, 10], .L [7, 11, 12], .K 8, .P [13], .N [14]] rfl (fun _ _ d _ _ h => by cases d <;> exact h) (fun _ h => h) (by kernel_rfl) ((Chg.refl _).drew) ?_
                    apply sigP (Nat.le_refl _)
                    · intro w'
                      (simp only [wpPl, pickOps, List.filterMap_cons, List.filterMap_nil, List.getElem?_toArray, List.getElem?_cons_zero, List.getElem?_cons_succ]; iterate 2 (go_wp2; refine ⟨trivial, ?_⟩)); rfl
                    apply sigL (by simp)
                    · intro w' hS
                      have y0 := blk_cell (hS.blkNo BX9.out) 0
                      (simp only [wpPl, pickOps, List.filterMap_cons, List.filterMap_nil, List.getElem?_toArray, List.getElem?_cons_zero, List.getElem?_cons_succ]; iterate 1 (go_wp2; refine ⟨trivial, ?_⟩)); rfl
                    apply sigP (by simp)
                    · intro w'
                      (simp only [wpPl, pickOps, List.filterMap_cons, List.filterMap_nil, List.getElem?_toArray, List.getElem?_cons_zero, List.getElem?_cons_succ]; iterate 6 (go_wp2; refine ⟨trivial, ?_⟩)); rfl
                    apply sigL (by simp)
                    · intro w' hS
                      have y0 := blk_cell (hS.blkNo BX9.out) 0
                      have y1 := hS.cellNo EZ9.out
                      (simp only [wpPl, pickOps, List.filterMap_cons, List.filterMap_nil, List.getElem?_toArray, List.getElem?_cons_zero, List.getElem?_cons_succ]; iterate 3 (go_wp2; refine ⟨trivial, ?_⟩)); rfl
                    apply sigK
                    simp only [pickOps, List.filterMap_cons, List.filterMap_nil, List.getElem?_toArray, List.getElem?_cons_zero, List.getElem?_cons_succ]
                    go_wp2_with fail
                    refine ⟨(Chg.refl w10).drew, ?_⟩
                    apply sigP (by simp)
                    · intro w'
                      (simp only [wpPl, pickOps, List.filterMap_cons, List.filterMap_nil, List.getElem?_toArray, List.getElem?_cons_zero, List.getElem?_cons_succ]; iterate 1 (go_wp2; refine ⟨trivial, ?_⟩)); rfl
                    apply sigN
                    simp only [pickOps, List.filterMap_cons, List.filterMap_nil, List.getElem?_toArray, List.getElem?_cons_zero, List.getElem?_cons_succ]
                    go_wp2_with fail
                    apply sigEnd
                    go_wp2_with fail
                    exact ⟨⟨j + 1, by omega, by go_num, D9.out.drew⟩, by simp [intOf]; omega⟩
                  · have hq := toList_ne hts
                    have hzt : Hid (z = (mset ma (.string s) [] (.string t)).length) := by
                      show _ = _
                      rw [mset_ne _ _ _ _ (fun h => hts (by injection h)), HZZ.out, HT.out]
                    clear hts
                    refine wp_region_sig 14 (fun w' => Chg NoM w10 w') [.P [0, 2], .L [1], .P [3, 4, 5, 6, 9, 10], .L [7, 11, 12], .K 8, .P [13], .N [14]] rfl (fun _ _ d _ _ h => by cases d <;> exact h) (fun _ h => h) (by kernel_rfl) ((Chg.refl _).drew) ?_
                    apply sigP (Nat.le_refl _)
                    · intro w'
                      (simp only [wpPl, pickOps, List.filterMap_cons, List.filterMap_nil, List.getElem?_toArray, List.getElem?_cons_zero, List.getElem?_cons_succ]; iterate 2 (go_wp2; refine ⟨trivial, ?_⟩)); rfl
                    apply sigL (by simp)
                    · intro w' hS
                      have y0 := blk_cell (hS.blkNo BX9.out) 0
                      (simp only [wpPl, pickOps, List.filterMap_cons, List.filterMap_nil, List.getElem?_toArray, List.getElem?_cons_zero, List.getElem?_cons_succ]; iterate 1 (go_wp2; refine ⟨trivial, ?_⟩)); rfl
                    apply sigP (by simp)
                    · intro w'
                      (simp only [wpPl, pickOps, List.filterMap_cons, List.filterMap_nil, List.getElem?_toArray, List.getElem?_cons_zero, List.getElem?_cons_succ]; iterate 6 (go_wp2; refine ⟨trivial, ?_⟩)); rfl
                    apply sigL (by simp)
                    · intro w' hS
                      have y0 := blk_cell (hS.blkNo BX9.out) 0
                      have y1 := hS.cellNo EZ9.out
                      (simp only [wpPl, pickOps, List.filterMap_cons, List.filterMap_nil, List.getElem?_toArray, List.getElem?_cons_zero, List.getElem?_cons_succ]; iterate 3 (go_wp2; refine ⟨trivial, ?_⟩)); rfl
                    apply sigK
                    simp only [pickOps, List.filterMap_cons, List.filterMap_nil, List.getElem?_toArray, List.getElem?_cons_zero, List.getElem?_cons_succ]
                    go_wp2_with fail
                    refine (St.len_s (SX.out.chgNo (Chg.refl w10).drew) hKt.out).mono ?_
                    rintro e w11 ⟨rfl, rfl⟩
                    rw [← hzt.out]
                    go_wp2_with fail
                    refine ⟨(Chg.refl w10).drew, ?_⟩
                    apply sigP (by simp)
                    · intro w'
                      (simp only [wpPl, pickOps, List.filterMap_cons, List.filterMap_nil, List.getElem?_toArray, List.getElem?_cons_zero, List.getElem?_cons_succ]; iterate 1 (go_wp2; refine ⟨trivial, ?_⟩)); rfl
                    apply sigN
                    simp only [pickOps, List.filterMap_cons, List.filterMap_nil, List.getElem?_toArray, List.getElem?_cons_zero, List.getElem?_cons_succ]
                    go_wp2_with fail
                    apply sigEnd
                    go_wp2_with fail
                    exact ⟨⟨j + 1, by omega, by go_num, D9.out.drew⟩, by simp [intOf]; omega⟩
                · have SX := Lib.hid ((StE.chgNo SF.out D.out).st (Nat.le_trans EF.out D.out.size))
                  have CX := Lib.hid (CF.out.trans D.out)
                  go_wp2_with fail
                  refine (SX.out.len_s hK.out).mono ?_
                  rintro e w9 ⟨rfl, rfl⟩
                  rw [mset_same]
                  go_wp2_with fail
                  refine (SX.out.all_s hK.out (by rw [mset_same]; simp)).mono ?_
                  rintro e w9 ⟨v9, rfl, hr9, hc9⟩
                  rw [mset_same] at hr9
                  obtain ⟨A9, c9, hv9, _, _⟩ := hr9.slice
                  change v9 = .slice A9 0 c9 at hv9
                  subst hv9
                  have C9 := Lib.hid (CX.out.trans hc9)
                  clear hr9 hc9
                  go_wp2_with fail
                  refine (lives_true _).mono ?_
                  rintro e w10 ⟨rfl, hc10⟩
                  go_wp2_with fail
                  go_ret
                  exact ⟨rfl, below_of_chg (C9.out.trans hc10)⟩
      · have hx0 := hx1
        have hx00 := hx2
        clear hx1 hx2
        go_wp2_with fail
        clear hk1 hk2 hx0 hx00
        refine (T.out.left.all_s hK.out (by have := BA.out (.string s); omega)).mono ?_
        rintro e w3 ⟨v3, rfl, hr3, hc3⟩
        obtain ⟨M, hM⟩ : ∃ M, M = ma (.string s) := ⟨_, rfl⟩
        have Ml : M.length ≤ n := by rw [hM]; exact BA.out _
        rw [← hM] at hr3
        obtain ⟨A3, c3, hv3, _, _⟩ := hr3.slice
        rw [imap_len] at hv3
        subst hv3
        have HR3 := Lib.hid hr3
        have T3 := Lib.hid (T.out.chgNo hc3)
        have C3 := Lib.hid (C.out.trans hc3)
        have HM2 : Hid (mb (.string s) = M) := by show _ = _; rw [hM]; exact HE.out.symm
        clear hr3 hc3 hM
        go_wp2_with fail
        refine (T3.out.swap.left.all_s hK.out (by have := BB.out (.string s); omega)).mono ?_
        rintro e w4 ⟨v4, rfl, hr4, hc4⟩
        rw [HM2.out] at hr4
        obtain ⟨A4, c4, hv4, _, _⟩ := hr4.slice
        rw [imap_len] at hv4
        subst hv4
        have SM := Lib.hid (same_true A3 A4 c3 c4 M w4 (HR3.out.chgNo hc4) hr4 (by omega))
        have T4 := Lib.hid (T3.out.chgNo hc4)
        have C4 := Lib.hid (C3.out.trans hc4)
        clear hr4 hc4
        go_wp2_with fail
        refine SM.out.mono ?_
        rintro e w5 ⟨rfl, hc5⟩
        have SA0 := Lib.hid (T4.out.chgNo hc5).left
        have C5 := Lib.hid (C4.out.trans hc5)
        clear hc5
        obtain ⟨E, hE⟩ : ∃ E, E = w5.heap.size := ⟨_, rfl⟩
        have SA5 : Hid (StE 53 9 w.heap.size E w5 sa n ma) := by rw [hE]; exact SA0.out
        have E0 : Hid (w.heap.size ≤ E) := by rw [hE]; exact C5.out.size
        have E5 : Hid (E ≤ w5.heap.size) := by rw [hE]; exact Nat.le_refl _
        have BAo := BA
        clear hE SA0 T T3 T4
        go_wp2_with fail
        clear BA BB HE HM2 SM HR3
        go_loopw [14, 15] (fun ov i wr => ∃ k : Nat, k ≤ ds.length ∧ k ≤ 16 ∧ i = .int .i64 k ∧ ∃ lens, Hid (Chg NoM w wr) ∧ Hid (StE 53 9 w.heap.size E wr sa n ma) ∧ Hid (RowO wr 3 ov (imap lens)) ∧ Hid (∀ g, rowBlk ov = some g → E ≤ g) ∧ Hid (Lens ds ma lens) ∧ Hid (lens.length = k) ∧ Hid (E ≤ wr.heap.size)) (fun _ i _ => 16 - (intOf i).toNat)
        case atStart => exact ⟨0, by omega, by omega, rfl, [], C5, SA5, RowO.nil _ _, (fun g hg => by simp [rowBlk] at hg), (fun i d z _ h => by simp at h), rfl, E5⟩
        case round =>
          obtain ⟨k, hk1, hk2, rfl, lens, C, SA, RO, RB, LN, HL, EW⟩ := hrel
          obtain ⟨AO, cO, rfl, _, _⟩ := RO.out.slice
          rw [imap_len] at RO RB ⊢
          by_cases hlt : k < ds.length ∧ k < 16
          · obtain ⟨ha, hb⟩ := hlt
            obtain ⟨b, off, d, hA, e0, e1, hd, hbw, hdk⟩ := note_at HD.out C.out k ha
            subst hA
            have HDK := Lib.hid hdk
            obtain ⟨ps, x⟩ := d
            have i0 : (0 : Int) ≤ (k : Int) := by omega
            have i1 : (k : Int) < (ds.length : Int) := by omega
            clear hdk
            go_wp2_with fail
            refine (fewN_any ps x wr hd).mono ?_
            rintro e w6 ⟨rfl, hc6⟩
            obtain ⟨t, ht⟩ : ∃ t, t = fewS ps 2 := ⟨_, rfl⟩
            have ht2 : t.size ≤ 1000 := by rw [ht]; have := fewS_size ps 2; omega
            rw [← ht]
            have HT := Lib.hid ht
            have hKt := Lib.hid (key_s ht2)
            have C6 := Lib.hid hc6
            have LK1 : lens.length ≤ 16 := by have := HL.out; omega
            clear hc6 e0 e1 ht hd
            go_wp2_with fail
            refine (St.len_s ((StE.chgNo SA.out C6.out).st (Nat.le_trans EW.out C6.out.size)) hKt.out).mono ?_
            rintro e w7 ⟨rfl, rfl⟩
            obtain ⟨z, hz⟩ : ∃ z : Int, z = ((ma (.string t)).length : Int) := ⟨_, rfl⟩
            rw [← hz]
            have HZ := Lib.hid hz
            clear hz
            go_wp2_with (refine wpList_append_O _ rfl (.tmp 96) (.tmp 105) 30 rfl 3 (.int .i64 0) 8 Try.underlying30 Try.info3 rfl (.slice AO lens.length cO) (imap lens) rfl ?c0 (some ⟨w6.heap.size, 0, none⟩) 1 1 [.int .i64 z] rfl rfl ?c1 ?c2 ?c3 ?c4 ?_)
            case c0 => exact RO.out.chgNo (C6.out.alloc _)
            case c1 => exact fun _ => ⟨_, rfl, news_blk (blk_new w6 _)⟩
            case c2 => intro u hu; simp at hu; rw [hu]; rfl
            case c3 => rw [imap_len]; omega
            case c4 => rw [imap_len]; omega
            intro v7 w7 R
            have hr := R.row
            rw [show imap lens ++ [Value.int .i64 z] = imap (lens ++ [z]) by simp [imap]] at hr
            have C7 : Hid (Chg NoM w w7) := (C.out.trans (C6.out.alloc _)).thenAll R.chg (fun i o h => Nat.le_trans E0.out (RB.out i h.1))
            have SA7 : Hid (StE 53 9 w.heap.size E w7 sa n ma) := (StE.chgNo SA.out (C6.out.alloc _)).rowO RB.out R.chg
            have hz6 := C6.out.size
            have EW7 : Hid (E ≤ w7.heap.size) := by have := R.chg.size; simp at this; have := EW.out; show _ ≤ _; omega
            have RB7 : Hid (∀ g, rowBlk v7 = some g → E ≤ g) := by
              intro g hg
              rcases R.own g hg with h | h
              · exact RB.out g h
              · simp at h; have := EW.out; omega
            have LN7 : Hid (Lens ds ma (lens ++ [z])) := by
              intro i d' z' hd' hz'
              by_cases hi : i < lens.length
              · rw [List.getElem?_append_left hi] at hz'
                exact LN.out i d' z' hd' hz'
              · have hk := HL.out
                have hi2 := (List.getElem?_eq_some_iff.1 hz').1
                rw [List.length_append, List.length_singleton] at hi2
                obtain rfl : i = k := by omega
                rw [HDK.out] at hd'
                cases hd'
                rw [← hk, List.getElem?_append_right (Nat.le_refl _)] at hz'
                simp at hz'
                rw [← hz', HZ.out, HT.out]
            obtain ⟨A7, c7, rfl, _, _⟩ := hr.slice
            have R7 := Lib.hid hr
            clear R hr hz6
            go_wp2_with fail
            refine ⟨⟨k + 1, by omega, by omega, by go_num, lens ++ [z], C7, SA7, R7, RB7, LN7, ?_, EW7⟩, by simp [intOf]; omega⟩
            show _ = _
            rw [List.length_append, HL.out]
            rfl
          · have hex : (¬ k < ds.length) ∨ (k < ds.length ∧ ¬ k < 16) := by omega
            rcases hex with hx | ⟨hx1, hx2⟩
            · have hx0 := hx
              go_wp2_with fail
              refine (StE.forget SA.out hK.out).mono ?_
              rintro e w8 ⟨rfl, hsf, hcf⟩
              have SF := Lib.hid hsf
              have CF := Lib.hid (C.out.thenAll hcf (fun i o h => h.1))
              have RF := Lib.hid (RO.out.chg hcf (fun g c f hg h => by have := RB.out g hg; have := h.2.1; omega))
              have LK0 : lens.length ≤ ds.length := by have := HL.out; omega
              have LK1 : lens.length ≤ 16 := by have := HL.out; omega
              have EF : Hid (E ≤ w8.heap.size) := Nat.le_trans EW.out hcf.size
              clear hsf hcf
              go_wp2_with fail
              go_loopw [16] (fun i wr => ∃ j : Nat, j ≤ lens.length ∧ i = .int .i64 j ∧ Hid (Chg NoM w8 wr)) (fun i _ => lens.length - (intOf i).toNat)
              case atStart => exact ⟨0, by omega, rfl, Chg.refl _⟩
              case round =>
                obtain ⟨j, hj, rfl, D⟩ := hrel
                obtain ⟨wi, rfl⟩ : ∃ wi : World, wi = wr := ⟨_, rfl⟩
                by_cases hjl : j < lens.length
                · obtain ⟨b, off, d, hA, e0, e1, hd, hbw, hdj⟩ := note_at HD.out (CF.out.trans D.out) j (by omega)
                  subst hA
                  have hz := List.getElem?_eq_getElem hjl
                  have hzz := LN.out j d _ hdj hz
                  obtain ⟨g, og, rfl, hgb, hcell⟩ := (RF.out.chgNo D.out).at (by rw [imap_len]; omega)
                  have ez := hcell j _ (imap_get lens j _ hz)
                  obtain ⟨z, hzdef⟩ : ∃ z, z = lens[j] := ⟨_, rfl⟩
                  rw [← hzdef] at ez hzz
                  obtain ⟨ps, x⟩ := d
                  have EZ := Lib.hid ez
                  have HZZ := Lib.hid hzz
                  have i0 : (0 : Int) ≤ (j : Int) := by omega
                  have i1 : (j : Int) < (ds.length : Int) := by omega
                  have i2 : (j : Int) < (lens.length : Int) := by omega
                  clear hz hzdef hcell hdj ez hzz
                  go_wp2_with fail
                  refine (fewN_any ps x wi hd).mono ?_
                  rintro e w9 ⟨rfl, hc9⟩
                  obtain ⟨t, ht⟩ : ∃ t, t = fewS ps 2 := ⟨_, rfl⟩
                  have ht2 : t.size ≤ 1000 := by rw [ht]; have := fewS_size ps 2; omega
                  rw [← ht]
                  have HT := Lib.hid ht
                  have bx9 := blk_new w9 (.cells #[.string t, .int .i64 x] 37)
                  have BX9 := Lib.hid bx9
                  have hKt := Lib.hid (key_s ht2)
                  have D9 := Lib.hid (D.out.trans (hc9.alloc (.cells #[.string t, .int .i64 x] 37)))
                  have EZ9 := Lib.hid ((hc9.alloc (.cells #[.string t, .int .i64 x] 37)).cellNo EZ.out)
                  clear hc9 e0 e1 ht hd bx9
                  go_wp2_with fail
                  generalize w9.alloc (.cells #[.string t, .int .i64 x] 37) = w10 at BX9 D9 EZ9 ⊢
                  have SX := Lib.hid ((StE.chgNo SF.out D9.out).st (Nat.le_trans EF.out D9.out.size))
                  by_cases hts : t = s
                  · have hq := toList_eq hts
                    clear hts
                    refine wp_region_sig 14 (fun w' => Chg NoM w10 w') [.P [0, 2], .L [1], .P [3, 4, 5, 6, 9, 10], .L [7, 11, 12], .K 8, .P [13], .N [14]] rfl (fun _ _ d _ _ h => by cases d <;> exact h) (fun _ h => h) (by kernel_rfl) ((Chg.refl _).drew) ?_
                    apply sigP (Nat.le_refl _)
                    · intro w'
                      (simp only [wpPl, pickOps, List.filterMap_cons, List.filterMap_nil, List.getElem?_toArray, List.getElem?_cons_zero, List.getElem?_cons_succ]; iterate 2 (go_wp2; refine ⟨trivial, ?_⟩)); rfl
                    apply sigL (by simp)
                    · intro w' hS
                      have y0 := blk_cell (hS.blkNo BX9.out) 0
                      (simp only [wpPl, pickOps, List.filterMap_cons, List.filterMap_nil, List.getElem?_toArray, List.getElem?_cons_zero, List.getElem?_cons_succ]; iterate 1 (go_wp2; refine ⟨trivial, ?_⟩)); rfl
                    apply sigP (by simp)
                    · intro w'
                      (simp only [wpPl, pickOps, List.filterMap_cons, List.filterMap_nil, List.getElem?_toArray, List.getElem?_cons_zero, List.getElem?_cons_succ]; iterate 6 (go_wp2; refine ⟨trivial, ?_⟩)); rfl
                    apply sigL (by simp)
                    · intro w' hS
                      have y0 := blk_cell (hS.blkNo BX9.out) 0
                      have y1 := hS.cellNo EZ9.out
                      (simp only [wpPl, pickOps, List.filterMap_cons, List.filterMap_nil, List.getElem?_toArray, List.getElem?_cons_zero, List.getElem?_cons_succ]; iterate 3 (go_wp2; refine ⟨trivial, ?_⟩)); rfl
                    apply sigK
                    simp only [pickOps, List.filterMap_cons, List.filterMap_nil, List.getElem?_toArray, List.getElem?_cons_zero, List.getElem?_cons_succ]
                    go_wp2_with fail
                    refine ⟨(Chg.refl w10).drew, ?_⟩
                    apply sigP (by simp)
                    · intro w'
                      (simp only [wpPl, pickOps, List.filterMap_cons, List.filterMap_nil, List.getElem?_toArray, List.getElem?_cons_zero, List.getElem?_cons_succ]; iterate 1 (go_wp2; refine ⟨trivial, ?_⟩)); rfl
                    apply sigN
                    simp only [pickOps, List.filterMap_cons, List.filterMap_nil, List.getElem?_toArray, List.getElem?_cons_zero, List.getElem?_cons_succ]
                    go_wp2_with fail
                    apply sigEnd
                    go_wp2_with fail
                    exact ⟨⟨j + 1, by omega, by go_num, D9.out.drew⟩, by simp [intOf]; omega⟩
                  · have hq := toList_ne hts
                    have hzt : Hid (z = (mset ma (.string s) [] (.string t)).length) := by
                      show _ = _
                      rw [mset_ne _ _ _ _ (fun h => hts (by injection h)), HZZ.out, HT.out]
                    clear hts
                    refine wp_region_sig 14 (fun w' => Chg NoM w10 w') [.P [0, 2], .L [1], .P [3, 4, 5, 6, 9, 10], .L [7, 11, 12], .K 8, .P [13], .N [14]] rfl (fun _ _ d _ _ h => by cases d <;> exact h) (fun _ h => h) (by kernel_rfl) ((Chg.refl _).drew) ?_
                    apply sigP (Nat.le_refl _)
                    · intro w'
                      (simp only [wpPl, pickOps, List.filterMap_cons, List.filterMap_nil, List.getElem?_toArray, List.getElem?_cons_zero, List.getElem?_cons_succ]; iterate 2 (go_wp2; refine ⟨trivial, ?_⟩)); rfl
                    apply sigL (by simp)
                    · intro w' hS
                      have y0 := blk_cell (hS.blkNo BX9.out) 0
                      (simp only [wpPl, pickOps, List.filterMap_cons, List.filterMap_nil, List.getElem?_toArray, List.getElem?_cons_zero, List.getElem?_cons_succ]; iterate 1 (go_wp2; refine ⟨trivial, ?_⟩)); rfl
                    apply sigP (by simp)
                    · intro w'
                      (simp only [wpPl, pickOps, List.filterMap_cons, List.filterMap_nil, List.getElem?_toArray, List.getElem?_cons_zero, List.getElem?_cons_succ]; iterate 6 (go_wp2; refine ⟨trivial, ?_⟩)); rfl
                    apply sigL (by simp)
                    · intro w' hS
                      have y0 := blk_cell (hS.blkNo BX9.out) 0
                      have y1 := hS.cellNo EZ9.out
                      (simp only [wpPl, pickOps, List.filterMap_cons, List.filterMap_nil, List.getElem?_toArray, List.getElem?_cons_zero, List.getElem?_cons_succ]; iterate 3 (go_wp2; refine ⟨trivial, ?_⟩)); rfl
                    apply sigK
                    simp only [pickOps, List.filterMap_cons, List.filterMap_nil, List.getElem?_toArray, List.getElem?_cons_zero, List.getElem?_cons_succ]
                    go_wp2_with fail
                    refine (St.len_s (SX.out.chgNo (Chg.refl w10).drew) hKt.out).mono ?_
                    rintro e w11 ⟨rfl, rfl⟩
                    rw [← hzt.out]
                    go_wp2_with fail
                    refine ⟨(Chg.refl w10).drew, ?_⟩
                    apply sigP (by simp)
                    · intro w'
                      (simp only [wpPl, pickOps, List.filterMap_cons, List.filterMap_nil, List.getElem?_toArray, List.getElem?_cons_zero, List.getElem?_cons_succ]; iterate 1 (go_wp2; refine ⟨trivial, ?_⟩)); rfl
                    apply sigN
                    simp only [pickOps, List.filterMap_cons, List.filterMap_nil, List.getElem?_toArray, List.getElem?_cons_zero, List.getElem?_cons_succ]
                    go_wp2_with fail
                    apply sigEnd
                    go_wp2_with fail
                    exact ⟨⟨j + 1, by omega, by go_num, D9.out.drew⟩, by simp [intOf]; omega⟩
                · have SX := Lib.hid ((StE.chgNo SF.out D.out).st (Nat.le_trans EF.out D.out.size))
                  have CX := Lib.hid (CF.out.trans D.out)
                  go_wp2_with fail
                  refine (SX.out.len_s hK.out).mono ?_
                  rintro e w9 ⟨rfl, rfl⟩
                  rw [mset_same]
                  go_wp2_with fail
                  refine (SX.out.all_s hK.out (by rw [mset_same]; simp)).mono ?_
                  rintro e w9 ⟨v9, rfl, hr9, hc9⟩
                  rw [mset_same] at hr9
                  obtain ⟨A9, c9, hv9, _, _⟩ := hr9.slice
                  change v9 = .slice A9 0 c9 at hv9
                  subst hv9
                  have C9 := Lib.hid (CX.out.trans hc9)
                  clear hr9 hc9
                  go_wp2_with fail
                  refine (lives_true _).mono ?_
                  rintro e w10 ⟨rfl, hc10⟩
                  go_wp2_with fail
                  go_ret
                  exact ⟨rfl, below_of_chg (C9.out.trans hc10)⟩
            · have hx0 := hx1
              go_wp2_with fail
              refine (StE.forget SA.out hK.out).mono ?_
              rintro e w8 ⟨rfl, hsf, hcf⟩
              have SF := Lib.hid hsf
              have CF := Lib.hid (C.out.thenAll hcf (fun i o h => h.1))
              have RF := Lib.hid (RO.out.chg hcf (fun g c f hg h => by have := RB.out g hg; have := h.2.1; omega))
              have LK0 : lens.length ≤ ds.length := by have := HL.out; omega
              have LK1 : lens.length ≤ 16 := by have := HL.out; omega
              have EF : Hid (E ≤ w8.heap.size) := Nat.le_trans EW.out hcf.size
              clear hsf hcf
              go_wp2_with fail
              go_loopw [16] (fun i wr => ∃ j : Nat, j ≤ lens.length ∧ i = .int .i64 j ∧ Hid (Chg NoM w8 wr)) (fun i _ => lens.length - (intOf i).toNat)
              case atStart => exact ⟨0, by omega, rfl, Chg.refl _⟩
              case round =>
                obtain ⟨j, hj, rfl, D⟩ := hrel
                obtain ⟨wi, rfl⟩ : ∃ wi : World, wi = wr := ⟨_, rfl⟩
                by_cases hjl : j < lens.length
                · obtain ⟨b, off, d, hA, e0, e1, hd, hbw, hdj⟩ := note_at HD.out (CF.out.trans D.out) j (by omega)
                  subst hA
                  have hz := List.getElem?_eq_getElem hjl
                  have hzz := LN.out j d _ hdj hz
                  obtain ⟨g, og, rfl, hgb, hcell⟩ := (RF.out.chgNo D.out).at (by rw [imap_len]; omega)
                  have ez := hcell j _ (imap_get lens j _ hz)
                  obtain ⟨z, hzdef⟩ : ∃ z, z = lens[j] := ⟨_, rfl⟩
                  rw [← hzdef] at ez hzz
                  obtain ⟨ps, x⟩ := d
                  have EZ := Lib.hid ez
                  have HZZ := Lib.hid hzz
                  have i0 : (0 : Int) ≤ (j : Int) := by omega
                  have i1 : (j : Int) < (ds.length : Int) := by omega
                  have i2 : (j : Int) < (lens.length : Int) := by omega
                  clear hz hzdef hcell hdj ez hzz
                  go_wp2_with fail
                  refine (fewN_any ps x wi hd).mono ?_
                  rintro e w9 ⟨rfl, hc9⟩
                  obtain ⟨t, ht⟩ : ∃ t, t = fewS ps 2 := ⟨_, rfl⟩
                  have ht2 : t.size ≤ 1000 := by rw [ht]; have := fewS_size ps 2; omega
                  rw [← ht]
                  have HT := Lib.hid ht
                  have bx9 := blk_new w9 (.cells #[.string t, .int .i64 x] 37)
                  have BX9 := Lib.hid bx9
                  have hKt := Lib.hid (key_s ht2)
                  have D9 := Lib.hid (D.out.trans (hc9.alloc (.cells #[.string t, .int .i64 x] 37)))
                  have EZ9 := Lib.hid ((hc9.alloc (.cells #[.string t, .int .i64 x] 37)).cellNo EZ.out)
                  clear hc9 e0 e1 ht hd bx9
                  go_wp2_with fail
                  generalize w9.alloc (.cells #[.string t, .int .i64 x] 37) = w10 at BX9 D9 EZ9 ⊢
                  have SX := Lib.hid ((StE.chgNo SF.out D9.out).st (Nat.le_trans EF.out D9.out.size))
                  by_cases hts : t = s
                  · have hq := toList_eq hts
                    clear hts
                    refine wp_region_sig 14 (fun w' => Chg NoM w10 w') [.P [0, 2], .L [1], .P [3, 4, 5, 6, 9, 10], .L [7, 11, 12], .K 8, .P [13], .N [14]] rfl (fun _ _ d _ _ h => by cases d <;> exact h) (fun _ h => h) (by kernel_rfl) ((Chg.refl _).drew) ?_
                    apply sigP (Nat.le_refl _)
                    · intro w'
                      (simp only [wpPl, pickOps, List.filterMap_cons, List.filterMap_nil, List.getElem?_toArray, List.getElem?_cons_zero, List.getElem?_cons_succ]; iterate 2 (go_wp2; refine ⟨trivial, ?_⟩)); rfl
                    apply sigL (by simp)
                    · intro w' hS
                      have y0 := blk_cell (hS.blkNo BX9.out) 0
                      (simp only [wpPl, pickOps, List.filterMap_cons, List.filterMap_nil, List.getElem?_toArray, List.getElem?_cons_zero, List.getElem?_cons_succ]; iterate 1 (go_wp2; refine ⟨trivial, ?_⟩)); rfl
                    apply sigP (by simp)
                    · intro w'
                      (simp only [wpPl, pickOps, List.filterMap_cons, List.filterMap_nil, List.getElem?_toArray, List.getElem?_cons_zero, List.getElem?_cons_succ]; iterate 6 (go_wp2; refine ⟨trivial, ?_⟩)); rfl
                    apply sigL (by simp)
                    · intro w' hS
                      have y0 := blk_cell (hS.blkNo BX9.out) 0
                      have y1 := hS.cellNo EZ9.out
                      (simp only [wpPl, pickOps, List.filterMap_cons, List.filterMap_nil, List.getElem?_toArray, List.getElem?_cons_zero, List.getElem?_cons_succ]; iterate 3 (go_wp2; refine ⟨trivial, ?_⟩)); rfl
                    apply sigK
                    simp only [pickOps, List.filterMap_cons, List.filterMap_nil, List.getElem?_toArray, List.getElem?_cons_zero, List.getElem?_cons_succ]
                    go_wp2_with fail
                    refine ⟨(Chg.refl w10).drew, ?_⟩
                    apply sigP (by simp)
                    · intro w'
                      (simp only [wpPl, pickOps, List.filterMap_cons, List.filterMap_nil, List.getElem?_toArray, List.getElem?_cons_zero, List.getElem?_cons_succ]; iterate 1 (go_wp2; refine ⟨trivial, ?_⟩)); rfl
                    apply sigN
                    simp only [pickOps, List.filterMap_cons, List.filterMap_nil, List.getElem?_toArray, List.getElem?_cons_zero, List.getElem?_cons_succ]
                    go_wp2_with fail
                    apply sigEnd
                    go_wp2_with fail
                    exact ⟨⟨j + 1, by omega, by go_num, D9.out.drew⟩, by simp [intOf]; omega⟩
                  · have hq := toList_ne hts
                    have hzt : Hid (z = (mset ma (.string s) [] (.string t)).length) := by
                      show _ = _
                      rw [mset_ne _ _ _ _ (fun h => hts (by injection h)), HZZ.out, HT.out]
                    clear hts
                    refine wp_region_sig 14 (fun w' => Chg NoM w10 w') [.P [0, 2], .L [1], .P [3, 4, 5, 6, 9, 10], .L [7, 11, 12], .K 8, .P [13], .N [14]] rfl (fun _ _ d _ _ h => by cases d <;> exact h) (fun _ h => h) (by kernel_rfl) ((Chg.refl _).drew) ?_
                    apply sigP (Nat.le_refl _)
                    · intro w'
                      (simp only [wpPl, pickOps, List.filterMap_cons, List.filterMap_nil, List.getElem?_toArray, List.getElem?_cons_zero, List.getElem?_cons_succ]; iterate 2 (go_wp2; refine ⟨trivial, ?_⟩)); rfl
                    apply sigL (by simp)
                    · intro w' hS
                      have y0 := blk_cell (hS.blkNo BX9.out) 0
                      (simp only [wpPl, pickOps, List.filterMap_cons, List.filterMap_nil, List.getElem?_toArray, List.getElem?_cons_zero, List.getElem?_cons_succ]; iterate 1 (go_wp2; refine ⟨trivial, ?_⟩)); rfl
                    apply sigP (by simp)
                    · intro w'
                      (simp only [wpPl, pickOps, List.filterMap_cons, List.filterMap_nil, List.getElem?_toArray, List.getElem?_cons_zero, List.getElem?_cons_succ]; iterate 6 (go_wp2; refine ⟨trivial, ?_⟩)); rfl
                    apply sigL (by simp)
                    · intro w' hS
                      have y0 := blk_cell (hS.blkNo BX9.out) 0
                      have y1 := hS.cellNo EZ9.out
                      (simp only [wpPl, pickOps, List.filterMap_cons, List.filterMap_nil, List.getElem?_toArray, List.getElem?_cons_zero, List.getElem?_cons_succ]; iterate 3 (go_wp2; refine ⟨trivial, ?_⟩)); rfl
                    apply sigK
                    simp only [pickOps, List.filterMap_cons, List.filterMap_nil, List.getElem?_toArray, List.getElem?_cons_zero, List.getElem?_cons_succ]
                    go_wp2_with fail
                    refine (St.len_s (SX.out.chgNo (Chg.refl w10).drew) hKt.out).mono ?_
                    rintro e w11 ⟨rfl, rfl⟩
                    rw [← hzt.out]
                    go_wp2_with fail
                    refine ⟨(Chg.refl w10).drew, ?_⟩
                    apply sigP (by simp)
                    · intro w'
                      (simp only [wpPl, pickOps, List.filterMap_cons, List.filterMap_nil, List.getElem?_toArray, List.getElem?_cons_zero, List.getElem?_cons_succ]; iterate 1 (go_wp2; refine ⟨trivial, ?_⟩)); rfl
                    apply sigN
                    simp only [pickOps, List.filterMap_cons, List.filterMap_nil, List.getElem?_toArray, List.getElem?_cons_zero, List.getElem?_cons_succ]
                    go_wp2_with fail
                    apply sigEnd
                    go_wp2_with fail
                    exact ⟨⟨j + 1, by omega, by go_num, D9.out.drew⟩, by simp [intOf]; omega⟩
                · have SX := Lib.hid ((StE.chgNo SF.out D.out).st (Nat.le_trans EF.out D.out.size))
                  have CX := Lib.hid (CF.out.trans D.out)
                  go_wp2_with fail
                  refine (SX.out.len_s hK.out).mono ?_
                  rintro e w9 ⟨rfl, rfl⟩
                  rw [mset_same]
                  go_wp2_with fail
                  refine (SX.out.all_s hK.out (by rw [mset_same]; simp)).mono ?_
                  rintro e w9 ⟨v9, rfl, hr9, hc9⟩
                  rw [mset_same] at hr9
                  obtain ⟨A9, c9, hv9, _, _⟩ := hr9.slice
                  change v9 = .slice A9 0 c9 at hv9
                  subst hv9
                  have C9 := Lib.hid (CX.out.trans hc9)
                  clear hr9 hc9
                  go_wp2_with fail
                  refine (lives_true _).mono ?_
                  rintro e w10 ⟨rfl, hc10⟩
                  go_wp2_with fail
                  go_ret
                  exact ⟨rfl, below_of_chg (C9.out.trans hc10)⟩
end Go.Proofs.Ytbgiljhppnafoaa
