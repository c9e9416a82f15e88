/- Contracts of package seen, second part: Note, All, Len, Forget. -/
import Derived.Test.YtbgiljhppnafoaaSeen
import Derived.WalkSpells
namespace Go.Proofs.Ytbgiljhppnafoaa
set_option linter.unusedVariables false
set_option linter.unusedSimpArgs false
open Go.RowKit

open Classical in
noncomputable def mset (m : Value → List Int) (key : Value) (L : List Int) : Value → List Int := fun y => if y = key then L else m y
theorem mset_same (m : Value → List Int) (key : Value) (L : List Int) : mset m key L key = L := by simp [mset]
theorem mset_ne (m : Value → List Int) (key y : Value) (L : List Int) (h : y ≠ key) : mset m key L y = m y := by simp [mset, h]
/-- The numbers of a thing behind a new one. -/
def noted (most : Nat) (l : List Int) (n : Int) : List Int := (l ++ [n]).drop (l.length + 1 - most)

theorem seen_step {T kt : TypeId} {w w1 w2 w4 : World} {S : Nat → Prop} {sb most : Nat} {m : Value → List Int} {mb : Nat} {f : Value → Option Value} {key v' u' : Value} {n : Int} {L : List Int} (hT : T ≠ 3)
    (a1 : w.heap[sb]? = some (.cells #[.int .i64 most, .map (some mb)] T (0, 0))) (a2 : MapAt Try.prog kt w mb f) (a3 : S mb) (a4 : ∀ x, f x = none → m x = []) (a5 : ∀ x u, f x = some u → RowO w 3 u (imap (m x)) ∧ ∀ g, rowBlk u = some g → S g)
    (a6 : ∀ x y u v g, f x = some u → f y = some v → rowBlk u = some g → rowBlk v = some g → x = y)
    (hc1 : Chg NoM w w1) (R : AppO w1 w2 3 ((f key).getD (.slice none 0 0)) v' (imap (m key)) [.int .i64 n]) (hr : RowO w2 3 u' (imap L)) (ho : ∀ g, rowBlk u' = some g → rowBlk v' = some g)
    (hm4 : MapAt Try.prog kt w4 mb (fput f key (some u'))) (hc4 : Chg (mapM mb) w2 w4) : SeenAt T kt w4 (grow S w w4) sb most (mset m key L) ∧ Chg (SeenM S) w w4 := by
  have hs1 := hc1.size
  have hs2 := R.chg.size
  have hs4 := hc4.size
  have hv : ∀ g, rowBlk ((f key).getD (.slice none 0 0)) = some g → ∃ v, f key = some v ∧ rowBlk v = some g := by
    intro g hg
    cases hf : f key with
    | none => rw [hf] at hg; simp [rowBlk] at hg
    | some v => rw [hf] at hg; exact ⟨v, rfl, hg⟩
  have own : ∀ g, rowBlk u' = some g → (∃ v, f key = some v ∧ rowBlk v = some g) ∨ (w.heap.size ≤ g ∧ g < w4.heap.size) := by
    intro g hg
    rcases R.own g (ho g hg) with h | h
    · exact .inl (hv g h)
    · exact .inr ⟨by omega, by have := hr.lt hg; omega⟩
  have mne : ∀ g c fr, ¬ mapM mb g (.cells c 3 fr) := by rintro g c fr ⟨_, _, _, h⟩; cases h
  have old : ∀ x u, x ≠ key → f x = some u → RowO w4 3 u (imap (m x)) := by
    intro x u hx hu
    refine (((a5 x u hu).1.chgNo hc1).chg R.chg ?_).chg hc4 (fun g c fr _ => mne g c fr)
    rintro g c fr hg ⟨hg', _⟩
    obtain ⟨v, hv1, hv2⟩ := hv g hg'
    exact hx (a6 x key u v g hu hv1 hg hv2)
  refine ⟨⟨mb, fput f key (some u'), ?_, hm4, .inl a3, ?_, ?_, ?_⟩, ?_⟩
  · refine hc4.block _ _ (R.chg.block _ _ (hc1.blkNo a1) (rowM.ne hT)) ?_
    rintro ⟨_, _, _, h⟩
    cases h
  · intro x hx
    by_cases hk : x = key
    · subst hk; rw [fput_same] at hx; cases hx
    · rw [fput_ne _ _ _ _ hk] at hx
      rw [mset_ne _ _ _ _ hk]
      exact a4 x hx
  · intro x u hx
    by_cases hk : x = key
    · subst hk
      rw [fput_same] at hx
      cases hx
      rw [mset_same]
      refine ⟨hr.chg hc4 (fun g c fr _ => mne g c fr), fun g hg => ?_⟩
      rcases own g hg with ⟨v, hv1, hv2⟩ | h
      · exact .inl ((a5 x v hv1).2 g hv2)
      · exact .inr h
    · rw [fput_ne _ _ _ _ hk] at hx
      rw [mset_ne _ _ _ _ hk]
      exact ⟨old x u hk hx, fun g hg => .inl ((a5 x u hx).2 g hg)⟩
  · intro x y u v g hx hy hu hv'
    by_cases hk : x = key <;> by_cases hl : y = key
    · rw [hk, hl]
    · subst hk
      rw [fput_same] at hx
      cases hx
      rw [fput_ne _ _ _ _ hl] at hy
      rcases own g hu with ⟨v0, hv1, hv2⟩ | h
      · exact a6 _ _ _ _ g hv1 hy hv2 hv'
      · have := (a5 y v hy).1.lt hv'; omega
    · subst hl
      rw [fput_same] at hy
      cases hy
      rw [fput_ne _ _ _ _ hk] at hx
      rcases own g hv' with ⟨v0, hv1, hv2⟩ | h
      · exact a6 _ _ _ _ g hx hv1 hu hv2
      · have := (a5 x u hx).1.lt hu; omega
    · rw [fput_ne _ _ _ _ hk] at hx
      rw [fput_ne _ _ _ _ hl] at hy
      exact a6 _ _ _ _ g hx hy hu hv'
  · refine (hc1.ofNo.then R.chg ?_).then hc4 ?_
    · rintro i o _ ⟨hg, h⟩
      obtain ⟨v, hv1, hv2⟩ := hv i hg
      exact ⟨(a5 key v hv1).2 i hv2, .inr h⟩
    · rintro i o _ ⟨rfl, h⟩
      exact ⟨a3, .inl h⟩

set_option maxHeartbeats 400000 in
theorem clone_any (A : Option Addr) (c : Nat) (l : List Int) (w : World) (hl : RowO w 3 (.slice A l.length c) (imap l)) (hn : l.length ≤ 1000) :
    Calls Try.prog 28 #[.slice A l.length c] w fun e w' => ∃ v, e = .returned v ∧ RowO w' 3 v (imap l) ∧ Chg NoM w w' := by
  cases A with
  | none =>
    have hnil := fun (w : World) => Lib.run_eql_slice_nil (P := Try.prog) w 30 3 none 0 c 0 0 Try.underlying30
    have h0 : l = [] := by
      obtain ⟨A', c', he, h1, _, h3, _⟩ := hl
      injection he with e1 e2 e3
      have := h3 e1.symm
      rw [imap_len] at h1
      exact List.eq_nil_of_length_eq_zero (by omega)
    subst h0
    simp only [List.length_nil]
    clear hl
    go_enter Try.func28, Try.ntmps28
    go_wp2_with fail
    go_ret
    exact ⟨_, rfl, RowO.nil _ _, Chg.refl _⟩
  | some a =>
    have hnil := fun (w : World) => Lib.run_eql_slice_nil (P := Try.prog) w 30 3 (some a) l.length c 0 0 Try.underlying30
    have HL := Lib.hid hl
    clear hl
    go_enter Try.func28, Try.ntmps28
    go_wp2_with (refine wpList_append_O _ rfl (.tmp 5) (.tmp 6) 30 rfl 3 (.int .i64 0) 8 Try.underlying30 Try.info3 rfl (.slice (some ⟨w.heap.size, 0, none⟩) 0 0) [] rfl ?c0 (some a) l.length c (imap l) rfl (imap_len l) ?c1 (imap_one l) ?c2 ?c3 ?_)
    case c0 => exact ⟨_, 0, rfl, Nat.le_refl _, by simp [maxLen], (fun h => by cases h), fun h => by omega⟩
    case c1 => exact (HL.out.chgNo ((Chg.refl w).alloc _)).news
    case c2 => simp; omega
    case c3 => simp; omega
    intro v' w2 R
    have hr := R.row
    have hc : Chg NoM w w2 := ((Chg.refl w).alloc _).then R.chg (fun i o _ h => by have := h.1; simp [rowBlk] at this)
    obtain ⟨A2, c2, rfl, _, _⟩ := hr.slice
    have HR := Lib.hid hr
    have HC := Lib.hid hc
    clear R hr hc
    go_wp2_with fail
    go_ret
    exact ⟨_, rfl, HR.out, HC.out⟩

set_option maxHeartbeats 400000 in
theorem note_no_s (S : Nat → Prop) (sb most : Nat) (m : Value → List Int) (key : Value) (kl : Lit) (n : Int) (w : World) (hS : SeenAt 53 9 w S sb most m) (hkey : keyOf Try.prog 9 key = some kl) (hn : n ∈ m key) :
    Calls Try.prog 10 #[.pointer (some ⟨sb, 0, none⟩), key, .int .i64 n] w fun e w' => e = .returned (.bool false) ∧ Chg NoM w w' := by
  have H := Lib.hid (has_yes_s S sb most m key kl n w hS hkey hn)
  clear hS hkey hn
  go_enter Try.func10, Try.ntmps10
  go_wp2_with fail
  refine H.out.mono ?_
  rintro e w' ⟨rfl, hc⟩
  go_wp2_with fail
  go_ret
  exact ⟨rfl, hc⟩
set_option maxHeartbeats 1000000 in
theorem note_yes_s (S : Nat → Prop) (sb most : Nat) (m : Value → List Int) (key : Value) (kl : Lit) (n : Int) (w : World) (hS : SeenAt 53 9 w S sb most m) (hkey : keyOf Try.prog 9 key = some kl) (hn : n ∉ m key) (hl : (m key).length ≤ 1000) (hm : most ≤ 1000) :
    Calls Try.prog 10 #[.pointer (some ⟨sb, 0, none⟩), key, .int .i64 n] w fun e w' => e = .returned (.bool true) ∧ SeenAt 53 9 w' (grow S w w') sb most (mset m key (noted most (m key) n)) ∧ Chg (SeenM S) w w' := by
  have H := Lib.hid (has_no_s S sb most m key kl n w hS hkey hn)
  have HKEY := Lib.hid hkey
  obtain ⟨mb, f, a1, a2, a3, a4, a5, a6⟩ := hS
  obtain ⟨l, hml⟩ : ∃ l, l = m key := ⟨_, rfl⟩
  have hrow : RowO w 3 ((f key).getD (.slice none 0 0)) (imap l) := by
    rw [hml]
    cases hf : f key with
    | none => rw [a4 key hf]; exact RowO.nil _ _
    | some u => exact (a5 key u hf).1
  obtain ⟨A, c, hv, _, _⟩ := hrow.slice
  rw [imap_len] at hv
  have HV := Lib.hid hv
  rw [hv] at hrow
  have hlook : ∀ W, Chg NoM w W → (Instr.lookup 51 (.map (some mb)) key false).run Try.prog W = .ok (.slice A l.length c) W := fun W hW => by rw [(a2.chgNo hW).look keyed9 Try.underlying51 zero30 hkey false, ← hv]; rfl
  have L0 : l.length ≤ 1000 := by rw [hml]; exact hl
  have HML := Lib.hid hml
  have HA := Lib.hid (And.intro a1 (And.intro a2 (And.intro a3 (And.intro a4 (And.intro a5 a6)))))
  have HR := Lib.hid hrow
  have HK := Lib.hid hlook
  clear hml a1 a2 a3 a4 a5 a6 hv hrow hlook hkey hn hl
  go_enter Try.func10, Try.ntmps10
  go_wp2_with fail
  refine H.out.mono ?_
  rintro e w1 ⟨rfl, hc1⟩
  have C1 := Lib.hid hc1
  have k1 : w1.cell? ⟨sb, 1, none⟩ = some (.map (some mb)) := blk_cell (hc1.blkNo HA.out.1) 1
  have sl := lt_of_blk (hc1.blkNo HA.out.1)
  have ne : sb ≠ w1.heap.size := by omega
  clear hc1
  go_wp2_with (first
    | (refine wpList_look_run rfl (.tmp 15) (.tmp 16) 51 false rfl (HK.out _ C1.out) ?_)
    | (refine wpList_append_O _ rfl (.tmp 17) (.tmp 19) 30 rfl 3 (.int .i64 0) 8 Try.underlying30 Try.info3 rfl (.slice A l.length c) (imap l) rfl ?c0 (some ⟨w1.heap.size, 0, none⟩) 1 1 [.int .i64 n] rfl rfl ?c1 ?c2 ?c3 ?c4 ?_))
  case c0 => exact HR.out.chgNo (C1.out.alloc _)
  case c1 => exact fun _ => ⟨_, rfl, news_blk (blk_new w1 _)⟩
  case c2 => intro u hu; simp at hu; rw [hu]; rfl
  case c3 => rw [imap_len]; omega
  case c4 => rw [imap_len]; omega
  intro v' w2 R
  obtain ⟨N, hN⟩ : ∃ N, N = l.length + 1 := ⟨_, rfl⟩
  have hr := R.row
  obtain ⟨A2, c2, hv2, hc2a, hc2b⟩ := hr.slice
  rw [List.length_append, imap_len, List.length_singleton, ← hN] at hv2 hc2a
  subst hv2
  obtain ⟨mm, hmm⟩ : ∃ mm, mm = N - most := ⟨_, rfl⟩
  obtain ⟨A', hcut, hA'⟩ := cut_l (P := Try.prog) 30 3 1 Try.underlying30 (by kernel_rfl) A2 N c2 mm (by omega)
  have hcut2 := hr.cut mm (by omega) hA'
  have b2 : w2.heap[sb]? = some (.cells #[.int .i64 most, .map (some mb)] 53 (0, 0)) := R.chg.block _ _ (blk_alloc (C1.out.blkNo HA.out.1) _) (rowM.ne (by decide))
  have M2 : Hid (MapAt Try.prog 9 w2 mb f) := (HA.out.2.1.chgNo (C1.out.alloc _)).chg R.chg (fun es c => by rintro ⟨_, _, _, h⟩; cases h)
  have B2 := Lib.hid b2
  have RR := Lib.hid R
  have CUT := Lib.hid hcut2
  have HN := Lib.hid hN
  have HMM := Lib.hid hmm
  have N0 : N ≤ 1001 := by omega
  have N1 : mm ≤ N := by omega
  have hcase : ((N : Int) < (most : Int) ∧ (mm : Int) = 0) ∨ (¬ (N : Int) < (most : Int) ∧ (mm : Int) = (N : Int) - (most : Int)) := by omega
  clear hr b2 R hcut2 hA' hN hmm k1 ne
  rcases hcase with ⟨q1, q2⟩ | ⟨q1, q2⟩
  all_goals
    rw [q2] at hcut
    clear q2
    go_wp2_with fail
    refine wp_region_sig 15 (fun w' => Chg NoM w2 w') [.P [0, 4, 5, 6, 8], .L [1, 2, 3, 7, 9, 10, 11, 12, 13, 14], .N [15]] rfl (fun _ _ d _ _ h => by cases d <;> exact h) (fun _ h => h) (by kernel_rfl) ((Chg.refl _).drew) ?_
    apply sigP (Nat.le_refl _)
    · intro w'
      (simp only [wpPl, pickOps, List.filterMap_cons, List.filterMap_nil, List.getElem?_toArray, List.getElem?_cons_zero, List.getElem?_cons_succ]; iterate 5 (go_wp2; refine ⟨trivial, ?_⟩)); rfl
    apply sigL (by simp)
    · intro w' hS
      have y0 := blk_cell (hS.blkNo B2.out) 0
      have y1 := blk_cell (hS.blkNo B2.out) 1
      (simp only [wpPl, pickOps, List.filterMap_cons, List.filterMap_nil, List.getElem?_toArray, List.getElem?_cons_zero, List.getElem?_cons_succ]; iterate 10 (go_wp2; refine ⟨trivial, ?_⟩)); rfl
    apply sigN
    simp only [pickOps, List.filterMap_cons, List.filterMap_nil, List.getElem?_toArray, List.getElem?_cons_zero, List.getElem?_cons_succ]
    refine wpList_put_f (key := key) (val := .slice A' (N - mm) (c2 - mm)) rfl (.tmp 24) (.tmp 25) (.tmp 35) 51 rfl (M2.out.chgNo (Chg.refl w2).drew) keyed9 Try.underlying51 rfl rfl rfl HKEY.out ?_
    intro w4 hm4 hc4 hs4
    have HH := Lib.hid (seen_step (L := noted most l n) (key := key) (n := n) (v' := .slice A2 N c2) (u' := .slice A' (N - mm) (c2 - mm)) (by decide) HA.out.1 HA.out.2.1 HA.out.2.2.1 HA.out.2.2.2.1 HA.out.2.2.2.2.1 HA.out.2.2.2.2.2 (C1.out.alloc _) (by rw [HV.out, ← HML.out]; exact RR.out)
      (by unfold noted; rw [imap_drop, imap_append, ← HN.out, ← HMM.out]; exact CUT.out.1) CUT.out.2 hm4 ((Chg.refl w2).drew.ofNo.trans hc4))
    rw [HML.out] at HH
    clear hm4 hc4 hs4
    go_wp2_with fail
    apply sigEnd
    go_wp2_with fail
    go_ret
    exact ⟨rfl, HH.out⟩
theorem all_s (S : Nat → Prop) (sb most : Nat) (m : Value → List Int) (key : Value) (kl : Lit) (w : World) (hS : SeenAt 53 9 w S sb most m) (hkey : keyOf Try.prog 9 key = some kl) (hl : (m key).length ≤ 1000) :
    Calls Try.prog 21 #[.pointer (some ⟨sb, 0, none⟩), key] w fun e w' => ∃ v, e = .returned v ∧ RowO w' 3 v (imap (m key)) ∧ Chg NoM w w' := by
  obtain ⟨mb, A, c, hb, hrow, hlook⟩ := hS.look keyed9 Try.underlying51 hkey
  have k1 : w.cell? ⟨sb, 1, none⟩ = some (.map (some mb)) := blk_cell hb 1
  have HR := Lib.hid hrow
  have HK := Lib.hid hlook
  clear hrow hlook hb hS hkey
  go_enter Try.func21, Try.ntmps21
  go_wp2_with (refine wpList_look_run rfl (.tmp 8) (.tmp 9) 51 false rfl (HK.out _ (Chg.refl w)) ?_)
  refine (clone_any A c (m key) w HR.out hl).mono ?_
  rintro e w' ⟨v, rfl, hr, hc⟩
  obtain ⟨A2, c2, rfl, _, _⟩ := hr.slice
  have HR2 := Lib.hid hr
  have HC := Lib.hid hc
  clear hr hc
  go_wp2_with fail
  go_ret
  exact ⟨_, rfl, HR2.out, HC.out⟩
set_option maxHeartbeats 400000 in
theorem note_no_i (S : Nat → Prop) (sb most : Nat) (m : Value → List Int) (key : Value) (kl : Lit) (n : Int) (w : World) (hS : SeenAt 57 3 w S sb most m) (hkey : keyOf Try.prog 3 key = some kl) (hn : n ∈ m key) :
    Calls Try.prog 14 #[.pointer (some ⟨sb, 0, none⟩), key, .int .i64 n] w fun e w' => e = .returned (.bool false) ∧ Chg NoM w w' := by
  have H := Lib.hid (has_yes_i S sb most m key kl n w hS hkey hn)
  clear hS hkey hn
  go_enter Try.func14, Try.ntmps14
  go_wp2_with fail
  refine H.out.mono ?_
  rintro e w' ⟨rfl, hc⟩
  go_wp2_with fail
  go_ret
  exact ⟨rfl, hc⟩
set_option maxHeartbeats 1000000 in
theorem note_yes_i (S : Nat → Prop) (sb most : Nat) (m : Value → List Int) (key : Value) (kl : Lit) (n : Int) (w : World) (hS : SeenAt 57 3 w S sb most m) (hkey : keyOf Try.prog 3 key = some kl) (hn : n ∉ m key) (hl : (m key).length ≤ 1000) (hm : most ≤ 1000) :
    Calls Try.prog 14 #[.pointer (some ⟨sb, 0, none⟩), key, .int .i64 n] w fun e w' => e = .returned (.bool true) ∧ SeenAt 57 3 w' (grow S w w') sb most (mset m key (noted most (m key) n)) ∧ Chg (SeenM S) w w' := by
  have H := Lib.hid (has_no_i S sb most m key kl n w hS hkey hn)
  have HKEY := Lib.hid hkey
  obtain ⟨mb, f, a1, a2, a3, a4, a5, a6⟩ := hS
  obtain ⟨l, hml⟩ : ∃ l, l = m key := ⟨_, rfl⟩
  have hrow : RowO w 3 ((f key).getD (.slice none 0 0)) (imap l) := by
    rw [hml]
    cases hf : f key with
    | none => rw [a4 key hf]; exact RowO.nil _ _
    | some u => exact (a5 key u hf).1
  obtain ⟨A, c, hv, _, _⟩ := hrow.slice
  rw [imap_len] at hv
  have HV := Lib.hid hv
  rw [hv] at hrow
  have hlook : ∀ W, Chg NoM w W → (Instr.lookup 55 (.map (some mb)) key false).run Try.prog W = .ok (.slice A l.length c) W := fun W hW => by rw [(a2.chgNo hW).look keyed3 Try.underlying55 zero30 hkey false, ← hv]; rfl
  have L0 : l.length ≤ 1000 := by rw [hml]; exact hl
  have HML := Lib.hid hml
  have HA := Lib.hid (And.intro a1 (And.intro a2 (And.intro a3 (And.intro a4 (And.intro a5 a6)))))
  have HR := Lib.hid hrow
  have HK := Lib.hid hlook
  clear hml a1 a2 a3 a4 a5 a6 hv hrow hlook hkey hn hl
  go_enter Try.func14, Try.ntmps14
  go_wp2_with fail
  refine H.out.mono ?_
  rintro e w1 ⟨rfl, hc1⟩
  have C1 := Lib.hid hc1
  have k1 : w1.cell? ⟨sb, 1, none⟩ = some (.map (some mb)) := blk_cell (hc1.blkNo HA.out.1) 1
  have sl := lt_of_blk (hc1.blkNo HA.out.1)
  have ne : sb ≠ w1.heap.size := by omega
  clear hc1
  go_wp2_with (first
    | (refine wpList_look_run rfl (.tmp 15) (.tmp 16) 55 false rfl (HK.out _ C1.out) ?_)
    | (refine wpList_append_O _ rfl (.tmp 17) (.tmp 19) 30 rfl 3 (.int .i64 0) 8 Try.underlying30 Try.info3 rfl (.slice A l.length c) (imap l) rfl ?c0 (some ⟨w1.heap.size, 0, none⟩) 1 1 [.int .i64 n] rfl rfl ?c1 ?c2 ?c3 ?c4 ?_))
  case c0 => exact HR.out.chgNo (C1.out.alloc _)
  case c1 => exact fun _ => ⟨_, rfl, news_blk (blk_new w1 _)⟩
  case c2 => intro u hu; simp at hu; rw [hu]; rfl
  case c3 => rw [imap_len]; omega
  case c4 => rw [imap_len]; omega
  intro v' w2 R
  obtain ⟨N, hN⟩ : ∃ N, N = l.length + 1 := ⟨_, rfl⟩
  have hr := R.row
  obtain ⟨A2, c2, hv2, hc2a, hc2b⟩ := hr.slice
  rw [List.length_append, imap_len, List.length_singleton, ← hN] at hv2 hc2a
  subst hv2
  obtain ⟨mm, hmm⟩ : ∃ mm, mm = N - most := ⟨_, rfl⟩
  obtain ⟨A', hcut, hA'⟩ := cut_l (P := Try.prog) 30 3 1 Try.underlying30 (by kernel_rfl) A2 N c2 mm (by omega)
  have hcut2 := hr.cut mm (by omega) hA'
  have b2 : w2.heap[sb]? = some (.cells #[.int .i64 most, .map (some mb)] 57 (0, 0)) := R.chg.block _ _ (blk_alloc (C1.out.blkNo HA.out.1) _) (rowM.ne (by decide))
  have M2 : Hid (MapAt Try.prog 3 w2 mb f) := (HA.out.2.1.chgNo (C1.out.alloc _)).chg R.chg (fun es c => by rintro ⟨_, _, _, h⟩; cases h)
  have B2 := Lib.hid b2
  have RR := Lib.hid R
  have CUT := Lib.hid hcut2
  have HN := Lib.hid hN
  have HMM := Lib.hid hmm
  have N0 : N ≤ 1001 := by omega
  have N1 : mm ≤ N := by omega
  have hcase : ((N : Int) < (most : Int) ∧ (mm : Int) = 0) ∨ (¬ (N : Int) < (most : Int) ∧ (mm : Int) = (N : Int) - (most : Int)) := by omega
  clear hr b2 R hcut2 hA' hN hmm k1 ne
  rcases hcase with ⟨q1, q2⟩ | ⟨q1, q2⟩
  all_goals
    rw [q2] at hcut
    clear q2
    go_wp2_with fail
    refine wp_region_sig 15 (fun w' => Chg NoM w2 w') [.P [0, 4, 5, 6, 8], .L [1, 2, 3, 7, 9, 10, 11, 12, 13, 14], .N [15]] rfl (fun _ _ d _ _ h => by cases d <;> exact h) (fun _ h => h) (by kernel_rfl) ((Chg.refl _).drew) ?_
    apply sigP (Nat.le_refl _)
    · intro w'
      (simp only [wpPl, pickOps, List.filterMap_cons, List.filterMap_nil, List.getElem?_toArray, List.getElem?_cons_zero, List.getElem?_cons_succ]; iterate 5 (go_wp2; refine ⟨trivial, ?_⟩)); rfl
    apply sigL (by simp)
    · intro w' hS
      have y0 := blk_cell (hS.blkNo B2.out) 0
      have y1 := blk_cell (hS.blkNo B2.out) 1
      (simp only [wpPl, pickOps, List.filterMap_cons, List.filterMap_nil, List.getElem?_toArray, List.getElem?_cons_zero, List.getElem?_cons_succ]; iterate 10 (go_wp2; refine ⟨trivial, ?_⟩)); rfl
    apply sigN
    simp only [pickOps, List.filterMap_cons, List.filterMap_nil, List.getElem?_toArray, List.getElem?_cons_zero, List.getElem?_cons_succ]
    refine wpList_put_f (key := key) (val := .slice A' (N - mm) (c2 - mm)) rfl (.tmp 24) (.tmp 25) (.tmp 35) 55 rfl (M2.out.chgNo (Chg.refl w2).drew) keyed3 Try.underlying55 rfl rfl rfl HKEY.out ?_
    intro w4 hm4 hc4 hs4
    have HH := Lib.hid (seen_step (L := noted most l n) (key := key) (n := n) (v' := .slice A2 N c2) (u' := .slice A' (N - mm) (c2 - mm)) (by decide) HA.out.1 HA.out.2.1 HA.out.2.2.1 HA.out.2.2.2.1 HA.out.2.2.2.2.1 HA.out.2.2.2.2.2 (C1.out.alloc _) (by rw [HV.out, ← HML.out]; exact RR.out)
      (by unfold noted; rw [imap_drop, imap_append, ← HN.out, ← HMM.out]; exact CUT.out.1) CUT.out.2 hm4 ((Chg.refl w2).drew.ofNo.trans hc4))
    rw [HML.out] at HH
    clear hm4 hc4 hs4
    go_wp2_with fail
    apply sigEnd
    go_wp2_with fail
    go_ret
    exact ⟨rfl, HH.out⟩
theorem all_i (S : Nat → Prop) (sb most : Nat) (m : Value → List Int) (key : Value) (kl : Lit) (w : World) (hS : SeenAt 57 3 w S sb most m) (hkey : keyOf Try.prog 3 key = some kl) (hl : (m key).length ≤ 1000) :
    Calls Try.prog 17 #[.pointer (some ⟨sb, 0, none⟩), key] w fun e w' => ∃ v, e = .returned v ∧ RowO w' 3 v (imap (m key)) ∧ Chg NoM w w' := by
  obtain ⟨mb, A, c, hb, hrow, hlook⟩ := hS.look keyed3 Try.underlying55 hkey
  have k1 : w.cell? ⟨sb, 1, none⟩ = some (.map (some mb)) := blk_cell hb 1
  have HR := Lib.hid hrow
  have HK := Lib.hid hlook
  clear hrow hlook hb hS hkey
  go_enter Try.func17, Try.ntmps17
  go_wp2_with (refine wpList_look_run rfl (.tmp 8) (.tmp 9) 55 false rfl (HK.out _ (Chg.refl w)) ?_)
  refine (clone_any A c (m key) w HR.out hl).mono ?_
  rintro e w' ⟨v, rfl, hr, hc⟩
  obtain ⟨A2, c2, rfl, _, _⟩ := hr.slice
  have HR2 := Lib.hid hr
  have HC := Lib.hid hc
  clear hr hc
  go_wp2_with fail
  go_ret
  exact ⟨_, rfl, HR2.out, HC.out⟩

theorem len_s (S : Nat → Prop) (sb most : Nat) (m : Value → List Int) (key : Value) (kl : Lit) (w : World) (hS : SeenAt 53 9 w S sb most m) (hkey : keyOf Try.prog 9 key = some kl) :
    Calls Try.prog 22 #[.pointer (some ⟨sb, 0, none⟩), key] w fun e w' => e = .returned (.int .i64 (m key).length) ∧ w = w' := by
  obtain ⟨mb, A, c, hb, hrow, hlook⟩ := hS.look keyed9 Try.underlying51 hkey
  have k1 : w.cell? ⟨sb, 1, none⟩ = some (.map (some mb)) := blk_cell hb 1
  have HK := Lib.hid hlook
  clear hrow hlook hb hS hkey
  go_enter Try.func22, Try.ntmps22
  go_wp2_with (refine wpList_look_run rfl (.tmp 8) (.tmp 9) 51 false rfl (HK.out _ (Chg.refl w)) ?_)
  go_wp2_with fail
  go_ret
  exact ⟨rfl, rfl⟩
theorem seen_del {T kt : TypeId} {w w4 : World} {S : Nat → Prop} {sb most : Nat} {m : Value → List Int} {mb : Nat} {f : Value → Option Value} {key : Value}
    (a1 : w.heap[sb]? = some (.cells #[.int .i64 most, .map (some mb)] T (0, 0))) (a3 : S mb) (a4 : ∀ x, f x = none → m x = []) (a5 : ∀ x u, f x = some u → RowO w 3 u (imap (m x)) ∧ ∀ g, rowBlk u = some g → S g)
    (a6 : ∀ x y u v g, f x = some u → f y = some v → rowBlk u = some g → rowBlk v = some g → x = y)
    (hm4 : MapAt Try.prog kt w4 mb (fput f key none)) (hc4 : Chg (mapM mb) w w4) : SeenAt T kt w4 S sb most (mset m key []) ∧ Chg (SeenM S) w w4 := by
  have mne : ∀ g t c fr, ¬ mapM mb g (.cells c t fr) := by rintro g t c fr ⟨_, _, _, h⟩; cases h
  refine ⟨⟨mb, fput f key none, hc4.block _ _ a1 (mne _ _ _ _), hm4, a3, ?_, ?_, ?_⟩, hc4.mono (fun i o _ h => ⟨by rw [h.1]; exact a3, .inl h.2⟩)⟩
  · intro x hx
    by_cases hk : x = key
    · subst hk; rw [mset_same]
    · rw [fput_ne _ _ _ _ hk] at hx
      rw [mset_ne _ _ _ _ hk]
      exact a4 x hx
  · intro x u hx
    by_cases hk : x = key
    · subst hk; rw [fput_same] at hx; cases hx
    · rw [fput_ne _ _ _ _ hk] at hx
      rw [mset_ne _ _ _ _ hk]
      exact ⟨(a5 x u hx).1.chg hc4 (fun g c fr _ => mne g _ c fr), (a5 x u hx).2⟩
  · intro x y u v g hx hy hu hv
    have h : ∀ z u, fput f key none z = some u → f z = some u := by
      intro z u hz
      by_cases hk : z = key
      · subst hk; rw [fput_same] at hz; cases hz
      · rwa [fput_ne _ _ _ _ hk] at hz
    exact a6 x y u v g (h _ _ hx) (h _ _ hy) hu hv
theorem forget_s (S : Nat → Prop) (sb most : Nat) (m : Value → List Int) (key : Value) (kl : Lit) (w : World) (hS : SeenAt 53 9 w S sb most m) (hkey : keyOf Try.prog 9 key = some kl) :
    Calls Try.prog 24 #[.pointer (some ⟨sb, 0, none⟩), key] w fun e w' => e = .returned (.tuple #[]) ∧ SeenAt 53 9 w' S sb most (mset m key []) ∧ Chg (SeenM S) w w' := by
  obtain ⟨mb, f, a1, a2, a3, a4, a5, a6⟩ := hS
  have k1 : w.cell? ⟨sb, 1, none⟩ = some (.map (some mb)) := blk_cell a1 1
  have HA := Lib.hid (And.intro a1 (And.intro a2 (And.intro a3 (And.intro a4 (And.intro a5 a6)))))
  have HKEY := Lib.hid hkey
  clear a1 a2 a3 a4 a5 a6 hkey
  go_enter Try.func24, Try.ntmps24
  go_wp2_with (refine wpList_del_f rfl (.tmp 7) (.tmp 8) 51 rfl HA.out.2.1 keyed9 Try.underlying51 rfl rfl HKEY.out ?_)
  intro w4 hm4 hc4 hs4
  have HH := Lib.hid (seen_del HA.out.1 HA.out.2.2.1 HA.out.2.2.2.1 HA.out.2.2.2.2.1 HA.out.2.2.2.2.2 hm4 hc4)
  clear hm4 hc4 hs4
  go_wp2_with fail
  go_end0
  exact ⟨rfl, HH.out⟩
end Go.Proofs.Ytbgiljhppnafoaa
