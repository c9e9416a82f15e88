/- Contract of the reference's All: what is known of a thing, out of the notes in their row. -/
import Derived.Test.YtbgiljhppnafoaaRefS
namespace Go.Proofs.Ytbgiljhppnafoaa
set_option linter.unusedVariables false
set_option linter.unusedSimpArgs false
open Go.RowKit

def ncells (l : List (ByteArray × Int)) : List Value := l.flatMap fun p => [.string p.1, .int .i64 p.2]
theorem ncells_append (l m : List (ByteArray × Int)) : ncells (l ++ m) = ncells l ++ ncells m := by simp [ncells]
theorem ncells_one (p : ByteArray × Int) : ncells [p] = [.string p.1, .int .i64 p.2] := by simp [ncells]
theorem ncells_len (l : List (ByteArray × Int)) : (ncells l).length = l.length * 2 := by
  induction l with
  | nil => rfl
  | cons p l ih => rw [show p :: l = [p] ++ l from rfl, ncells_append, List.length_append, ih, ncells_one]; simp; omega
theorem ncells_drop (l : List (ByteArray × Int)) (k : Nat) : ncells (l.drop k) = (ncells l).drop (k * 2) := by
  induction l generalizing k with
  | nil => simp [ncells]
  | cons p l ih =>
    cases k with
    | zero => simp [ncells]
    | succ k =>
      rw [List.drop_succ_cons, ih, show p :: l = [p] ++ l from rfl, ncells_append, ncells_one, show (k + 1) * 2 = k * 2 + 1 + 1 by omega]
      rfl
theorem ncells_at (l : List (ByteArray × Int)) (k : Nat) (p : ByteArray × Int) (h : l[k]? = some p) : (ncells l)[k * 2]? = some (.string p.1) ∧ (ncells l)[k * 2 + 1]? = some (.int .i64 p.2) := by
  have e : ncells (l.drop k) = (ncells l).drop (k * 2) := ncells_drop l k
  obtain ⟨hk, hp⟩ := List.getElem?_eq_some_iff.1 h
  rw [List.drop_eq_getElem_cons hk, hp, show p :: l.drop (k + 1) = [p] ++ l.drop (k + 1) from rfl, ncells_append, ncells_one] at e
  have h0 : ((ncells l).drop (k * 2))[0]? = some (.string p.1) := by rw [← e]; rfl
  have h1 : ((ncells l).drop (k * 2))[1]? = some (.int .i64 p.2) := by rw [← e]; rfl
  rw [List.getElem?_drop] at h0 h1
  exact ⟨h0, h1⟩

/-- A thing's numbers behind one note. -/
def tell (s : ByteArray) (most : Nat) (out : List Int) (x : ByteArray × Int) : List Int := if x.1 = s then (if x.2 ∈ out then out else noted most out x.2) else out
def refAll (s : ByteArray) (most : Nat) (l : List (ByteArray × Int)) : List Int := l.foldl (tell s most) []
theorem refAll_snoc (s : ByteArray) (most : Nat) (l : List (ByteArray × Int)) (x : ByteArray × Int) : refAll s most (l ++ [x]) = tell s most (refAll s most l) x := by simp [refAll]
theorem noted_len (most : Nat) (l : List Int) (n : Int) (h : l.length ≤ most) : (noted most l n).length ≤ most := by
  unfold noted
  rw [List.length_drop, List.length_append, List.length_singleton]
  omega
theorem tell_len (s : ByteArray) (most : Nat) (l : List Int) (x : ByteArray × Int) (h : l.length ≤ most) : (tell s most l x).length ≤ most := by
  unfold tell
  split
  · split
    · exact h
    · exact noted_len most l x.2 h
  · exact h
theorem refAll_len (s : ByteArray) (most : Nat) (l : List (ByteArray × Int)) : (refAll s most l).length ≤ most := by
  unfold refAll
  have : ∀ (l : List (ByteArray × Int)) (a : List Int), a.length ≤ most → (l.foldl (tell s most) a).length ≤ most := by
    intro l
    induction l with
    | nil => intro a h; exact h
    | cons x l ih => intro a h; exact ih _ (tell_len s most a x h)
  exact this l [] (by simp)
theorem toList_ne {a b : ByteArray} (h : a ≠ b) : (a.toList == b.toList) = false := by
  rw [Bool.eq_false_iff]
  intro e
  rw [beq_iff_eq, ByteArray.toList_eq, ByteArray.toList_eq] at e
  exact h (WideShapes.bytes_inj e)
theorem toList_eq {a b : ByteArray} (h : a = b) : (a.toList == b.toList) = true := by rw [h]; exact beq_self_eq_true _

set_option maxHeartbeats 2000000 in
theorem refAll_any (B : Nat) (A : Option Addr) (c : Nat) (ns : List (ByteArray × Int)) (s : ByteArray) (most : Nat) (w : World) (hl : Row w B 37 2 (.slice A ns.length c) ns.length (ncells ns)) (hn : ns.length ≤ 1000) (hm : most ≤ 1000) :
    Calls Try.prog 18 #[.slice A ns.length c, .string s, .int .i64 most] w fun e w' => ∃ v, e = .returned v ∧ RowO w' 3 v (imap (refAll s most ns)) ∧ (∀ g, rowBlk v = some g → w.heap.size ≤ g) ∧ Chg NoM w w' := by
  have HL := Lib.hid hl
  clear hl
  go_enter Try.func18, Try.ntmps18
  go_wp2_with fail
  go_loopw [7, 8] (fun out i wr => ∃ k : Nat, k ≤ ns.length ∧ i = .int .i64 k ∧ Hid (Chg NoM w wr) ∧ Hid (RowO wr 3 out (imap (refAll s most (ns.take k)))) ∧ Hid (∀ g, rowBlk out = some g → w.heap.size ≤ g)) (fun _ i _ => ns.length - (intOf i).toNat)
  case atStart => exact ⟨0, by omega, rfl, Chg.refl w, RowO.nil _ _, fun g hg => by simp [rowBlk] at hg⟩
  case round =>
    obtain ⟨k, hk, rfl, C, HR, HB⟩ := hrel
    by_cases hlt : k < ns.length
    · obtain ⟨L, hL⟩ : ∃ L, L = refAll s most (ns.take k) := ⟨_, rfl⟩
      rw [← hL] at HR
      have hLm : L.length ≤ most := by rw [hL]; exact refAll_len _ _ _
      obtain ⟨AL, cL, rfl, hcl1, hcl2⟩ := HR.out.slice
      rw [imap_len] at HR HB ⊢
      obtain ⟨p, hp⟩ : ∃ p, ns[k]? = some p := ⟨_, List.getElem?_eq_getElem hlt⟩
      obtain ⟨g, cap, he, hbg, _, _, _, hcells⟩ := HL.out.cells (by omega)
      cases he
      obtain ⟨q0, q1⟩ := ncells_at ns k p hp
      have E0 := Lib.hid (C.out.cellNo (hcells _ _ q0))
      have E1 := Lib.hid (C.out.cellNo (hcells _ _ q1))
      have hstep : Hid (refAll s most (ns.take (k + 1)) = tell s most L p) := by
        show _ = _
        obtain ⟨hk', hp'⟩ := List.getElem?_eq_some_iff.1 hp
        rw [List.take_succ_eq_append_getElem hk', refAll_snoc, hp', hL]
      have i0 : (0 : Int) ≤ (k : Int) := by omega
      have i1 : (k : Int) < (ns.length : Int) := by omega
      clear hL hp hcells q0 q1 hcl1 hcl2
      obtain ⟨ps, pn⟩ := p
      have e0 := E0.out
      by_cases hs : ps = s
      · have hq := toList_eq hs
        have HS := Lib.hid hs
        clear hs
        go_wp2_with fail
        go_loopw [9, 10] (fun h j wx => ∃ t : Nat, ∃ b : Bool, t ≤ L.length ∧ h = .bool b ∧ j = .int .i64 t ∧ Hid (b = true ↔ pn ∈ L.take t) ∧ Hid (Chg NoM wr wx)) (fun _ j _ => L.length - (intOf j).toNat)
        case atStart => exact ⟨0, false, by omega, rfl, rfl, by simp [Hid], Chg.refl wr⟩
        case round =>
          obtain ⟨t, b, ht, rfl, rfl, HI, CC⟩ := hrel
          obtain ⟨wi, rfl⟩ : ∃ wi : World, wi = wr := ⟨_, rfl⟩
          by_cases htl : t < L.length
          · obtain ⟨gL, oL, rfl, _, hcL⟩ := (HR.out.chgNo CC.out).at (by rw [imap_len]; omega)
            have eL := hcL t _ (imap_get L t _ (List.getElem?_eq_getElem htl))
            have e1 := CC.out.cellNo E1.out
            obtain ⟨y, hy⟩ : ∃ y, y = L[t] := ⟨_, rfl⟩
            rw [← hy] at eL
            have hyi : Hid (pn ∈ L.take (t + 1) ↔ pn ∈ L.take t ∨ pn = y) := by
              show _ ↔ _
              rw [List.take_succ_eq_append_getElem htl, List.mem_append, hy]
              simp
            clear hy hcL
            have i2 : (0 : Int) ≤ (t : Int) := by omega
            have i3 : (t : Int) < (L.length : Int) := by omega
            cases b with
            | true =>
              go_wp2_with fail
              go_quiet (fail)
              go_wp2_with fail
              refine ⟨⟨t + 1, true, by omega, rfl, by go_num, ?_, CC.out.drewN _⟩, by simp [intOf]; omega⟩
              show _ ↔ _
              rw [hyi.out]
              exact ⟨fun _ => .inl (HI.out.1 (by first | rfl | trivial)), fun _ => by first | rfl | trivial⟩
            | false =>
              obtain ⟨q, hqq⟩ : ∃ q : Bool, q = (y == pn) := ⟨_, rfl⟩
              have HQ := Lib.hid hqq
              go_wp2_with fail
              go_quiet (fail)
              rw [← hqq]
              clear hqq
              go_wp2_with fail
              refine ⟨⟨t + 1, q, by omega, rfl, by go_num, ?_, CC.out.drewN _⟩, by simp [intOf]; omega⟩
              show _ ↔ _
              rw [hyi.out, HQ.out, beq_iff_eq]
              have hno : pn ∉ L.take t := fun h => by have := HI.out.2 h; cases this
              exact ⟨fun h => .inr h.symm, fun h => h.elim (fun h => absurd h hno) (fun h => h.symm)⟩
          · obtain rfl : L.length = t := by omega
            have hI := HI.out
            rw [List.take_length] at hI
            have HI2 := Lib.hid hI
            clear hI
            have e1 := CC.out.cellNo E1.out
            cases b with
            | true =>
              go_wp2_with fail
              refine ⟨⟨k + 1, by omega, by go_num, C.out.trans CC.out, ?_, HB⟩, by simp [intOf]; omega⟩
              rw [hstep.out]
              unfold tell
              rw [if_pos HS.out, if_pos (HI2.out.1 rfl)]
              exact HR.out.chgNo CC.out
            | false =>
              go_wp2_with (refine wpList_append_O _ rfl (.tmp 44) (.tmp 50) 30 rfl 3 (.int .i64 0) 8 Try.underlying30 Try.info3 rfl (.slice AL L.length cL) (imap L) rfl ?c0 (some ⟨wi.heap.size, 0, none⟩) 1 1 [.int .i64 pn] rfl rfl ?c1 ?c2 ?c3 ?c4 ?_)
              case c0 => exact (HR.out.chgNo CC.out).chgNo ((Chg.refl wi).alloc _)
              case c1 => exact fun _ => ⟨_, rfl, news_blk (blk_new wi _)⟩
              case c2 => intro u hu; simp at hu; rw [hu]; rfl
              case c3 => rw [imap_len]; omega
              case c4 => rw [imap_len]; omega
              intro v' w2 R
              obtain ⟨N, hN⟩ : ∃ N, N = L.length + 1 := ⟨_, rfl⟩
              have hr := R.row
              obtain ⟨A2, c2, hv2, hc2a, hc2b⟩ := hr.slice
              rw [List.length_append, imap_len, List.length_singleton, ← hN] at hv2 hc2a
              subst hv2
              obtain ⟨mm, hmm⟩ : ∃ mm, mm = N - most := ⟨_, rfl⟩
              obtain ⟨A', hcut, hA'⟩ := cut_l (P := Try.prog) 30 3 1 Try.underlying30 (by kernel_rfl) A2 N c2 mm (by omega)
              have hcut2 := hr.cut mm (by omega) hA'
              have hcase : ((N : Int) < (most : Int) ∧ (mm : Int) = 0) ∨ (¬ (N : Int) < (most : Int) ∧ (mm : Int) = (N : Int) - (most : Int)) := by omega
              have HR2 : Hid (RowO w2 3 (.slice A' (N - mm) (c2 - mm)) (imap (refAll s most (ns.take (k + 1))))) := by
                have hno : pn ∉ L := fun h => by have := HI2.out.2 h; cases this
                rw [hstep.out]
                unfold tell
                rw [if_pos HS.out, if_neg hno]
                unfold noted
                rw [imap_drop, imap_append, ← hN, ← hmm]
                exact hcut2.1
              have hCw := (CC.out.alloc (.cells #[.int .i64 pn] 3)).size
              have HB2 : Hid (∀ g, rowBlk (.slice A' (N - mm) (c2 - mm)) = some g → w.heap.size ≤ g) := by
                intro g hg
                rcases R.own g (hcut2.2 g hg) with h | h
                · exact HB.out g h
                · have := C.out.size; omega
              have C2 : Hid (Chg NoM w w2) := (C.out.trans (CC.out.alloc (.cells #[.int .i64 pn] 3))).thenAll R.chg (fun i o h => HB.out i h.1)
              have N1 : mm ≤ N := by omega
              have N0 : N ≤ 1001 := by omega
              clear hr R hcut2 hA' hN hmm
              rcases hcase with ⟨z1, z2⟩ | ⟨z1, z2⟩
              all_goals
                rw [z2] at hcut
                clear z2
                go_wp2_with fail
                exact ⟨⟨k + 1, by omega, by go_num, C2, HR2, HB2⟩, by simp [intOf]; omega⟩
      · have hq := toList_ne hs
        have HS := Lib.hid hs
        clear hs
        go_wp2_with fail
        refine ⟨⟨k + 1, by omega, by go_num, C, ?_, HB⟩, by simp [intOf]; omega⟩
        rw [hstep.out]
        unfold tell
        rw [if_neg HS.out]
        exact HR
    · obtain rfl : ns.length = k := by omega
      obtain ⟨AL, cL, rfl, _, _⟩ := HR.out.slice
      go_wp2_with fail
      go_ret
      refine ⟨_, rfl, ?_, HB.out, C.out⟩
      have e : refAll s most ns = refAll s most (ns.take ns.length) := by rw [List.take_length]
      rw [e]
      exact HR.out
end Go.Proofs.Ytbgiljhppnafoaa
