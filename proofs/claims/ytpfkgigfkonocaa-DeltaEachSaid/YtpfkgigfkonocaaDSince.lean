/- Contract of package delta: Since, Pos; Touch at the end. -/
import Derived.Test.YtpfkgigfkonocaaDTouch
namespace Go.Proofs.Ytpfkgigfkonocaa
set_option linter.unusedVariables false
set_option linter.unusedSimpArgs false
open Go.RowKit
variable {w w' : World} {base lb nb mb : Nat} {f most : Int} {own : List ByteArray} {v : Value}

/-- copy(dst, src): dst a fresh row, src strings that can be read, as many. -/
theorem run_copy_s {P : Program} (w : World) (dT sT ty elem : TypeId) (hu : P.underlying dT = some (.slice elem)) (hsz : (P.info? elem).map (·.size) = some 1)
    (g dCap : Nat) (A : Option Addr) (sCap : Nat) (l : List ByteArray) (z : Value) (hg : w.heap[g]? = some (.cells (Array.replicate l.length z) elem (0, 0))) (hb : SO w A l) :
    ∃ w', (Builtin.copy_ #[dT, sT] ty #[.slice (some ⟨g, 0, none⟩) l.length dCap, .slice A l.length sCap]).run P w = .ok (goInt l.length) w' ∧
      w'.heap[g]? = some (.cells (scells l).toArray elem (0, 0)) ∧ Chg (fun k _ => k = g) w w' := by
  by_cases h0 : l.length = 0
  · obtain rfl : l = [] := List.eq_nil_of_length_eq_zero h0
    exact ⟨w, run_copy_none (P := P) w dT sT ty elem _ _ _ _ _ _ hu hsz (by simp), by simpa [scells] using hg, Chg.refl _⟩
  · obtain ⟨gs, off, rfl, hc⟩ := hb (by omega)
    have hr := run_copy_row (P := P) w dT sT ty elem g 0 l.length dCap ⟨gs, off, none⟩ l.length sCap (Array.replicate l.length z) elem (scells l) hu hsz hg (by simp [scells]) (fun j v hv => by
      simp only [scells, List.getElem?_map] at hv
      obtain ⟨s, hs, rfl⟩ := Option.map_eq_some_iff.1 hv
      have hadd : (⟨gs, off, none⟩ : Addr).add j = ⟨gs, off + j, none⟩ := by unfold Addr.add; split <;> simp_all
      rw [hadd]
      exact hc j s hs) (by simp [scells]) (scells_one l)
    have e1 : (List.take 0 (Array.replicate l.length z).toList ++ scells l ++ List.drop (0 + (scells l).length) (Array.replicate l.length z).toList) = scells l := by simp [scells]
    rw [e1, scells_len] at hr
    exact ⟨_, hr, setRow_heap w g _ _ elem (0, 0) hg, (Chg.refl w).setRow (fun o _ => rfl) _⟩
theorem wpList_copy_s {P : Program} {w : World} {ops : Array Oper} {rest : List Oper} {o : Oper} {a : Act} {Q : Exit → Act → World → Prop} (hgd : o.guard = none) (d s : Operand) (dT sT : TypeId)
    (ho : o.op = .call { callee := .builtin .copy, args := #[d, s], argTypes := #[dT, sT] }) (elem : TypeId) (hu : P.underlying dT = some (.slice elem)) (hsz : (P.info? elem).map (·.size) = some 1)
    (g dCap : Nat) (A : Option Addr) (sCap : Nat) (l : List ByteArray) (z : Value) (hd : a.eval d = .slice (some ⟨g, 0, none⟩) l.length dCap) (hs : a.eval s = .slice A l.length sCap)
    (hg : w.heap[g]? = some (.cells (Array.replicate l.length z) elem (0, 0))) (hb : SO w A l)
    (h : ∀ w', w'.heap[g]? = some (.cells (scells l).toArray elem (0, 0)) → Chg (fun k _ => k = g) w w' → wpList P ops Q rest (a.put o.dst (goInt l.length)) w') : wpList P ops Q (o :: rest) a w := by
  refine wpList_plain hgd fun K hK => ?_
  obtain ⟨w', hrun, h1, h2⟩ := run_copy_s (P := P) w dT sT o.type elem hu hsz g dCap A sCap l z hg hb
  unfold Oper.wp
  simp only [execOp, ho, resolve, invoke, builtin, Sem.run_bind, Sem.run_pure, Result.andThen_ok, List.map_toArray, List.map_cons, List.map_nil, hd, hs, hrun]
  exact hK _ _ (h w' h1 h2)
/-- The elements behind some, read. -/
theorem SO.cut {A A' : Option Addr} {l : List ByteArray} {c j : Nat} (h : SO w A l) (hj : j ≤ l.length) (hc : l.length ≤ c) (hA : A' = (if c = j then A else A.map (·.add (j * 1)))) : SO w A' (l.drop j) := by
  intro h0
  rw [List.length_drop] at h0
  rw [if_neg (by omega)] at hA
  obtain ⟨g, off, rfl, hcell⟩ := h (by omega)
  have hadd : (⟨g, off, none⟩ : Addr).add (j * 1) = ⟨g, off + j, none⟩ := by unfold Addr.add; split <;> simp_all
  simp only [Option.map_some, hadd] at hA
  subst hA
  refine ⟨g, off + j, rfl, fun i s hs => ?_⟩
  rw [List.getElem?_drop] at hs
  rw [Nat.add_assoc]
  exact hcell _ s hs
set_option maxHeartbeats 2000000 in
theorem since_any (n : Int) (w : World) (h : LogAt w base lb f own most nb mb v) (hs : ∀ s ∈ own, s.size ≤ 1000) (hn : own.length ≤ 1000) :
    Calls Try.prog 11 #[.pointer (some ⟨lb, 0, none⟩), .int .i64 n] w fun en w' => ∃ g0, en = .returned (.slice (some ⟨g0, 0, none⟩) (sinceL f own n).length (sinceL f own n).length) ∧ w.heap.size ≤ g0 ∧ w'.heap[g0]? = some (.cells (scells (sinceL f own n)).toArray 9 (0, 0)) ∧ Chg NoM w w' := by
  obtain ⟨A, c, rfl, hac, hcm⟩ := Row.slice h.row
  have kl : (keysOf f own).length ≤ own.length := keys_len f own
  have HB := Lib.hid h.box
  have HM := Lib.hid h.map
  have HR := Lib.hid h.row
  have HAC := Lib.hid hac
  have HS := Lib.hid hs
  have k1 := blk_cell h.box 1
  obtain ⟨AA, hAA⟩ : ∃ AA, AA = A := ⟨_, rfl⟩
  rw [← hAA] at HB HR k1
  clear h hac hs hAA
  go_enter Try.func11, Try.ntmps11
  go_wp2_with fail
  go_loopw [5] (fun i wr => ∃ j : Nat, j ≤ (keysOf f own).length ∧ i = .int .i64 j ∧ Hid (∀ q ∈ (kof f own).drop j, n < q.2) ∧ Hid (Chg NoM w wr)) (fun i _ => (intOf i).toNat)
  case atStart => exact ⟨(keysOf f own).length, by omega, rfl, (fun q hq => by rw [List.drop_eq_nil_of_le (by unfold keysOf; simp)] at hq; cases hq), Chg.refl w⟩
  case round =>
    obtain ⟨j, hj, rfl, HD, C⟩ := hrel
    have y1 := blk_cell (C.out.blkNo HB.out) 1
    have y2 := blk_cell (C.out.blkNo HB.out) 2
    by_cases h0 : j = 0
    · subst h0
      go_wp2_with fail
      go_quiet (fail)
      have SL := Lib.hid (since_drop hj HD.out (fun i q h _ => by omega))
      have CZ : Hid (Chg NoM w (wr.drewN nq)) := C.out.drewN nq
      generalize wr.drewN nq = wz at CZ ⊢
      clear y1 y2
      obtain ⟨m, hm⟩ : ∃ m : Nat, (keysOf f own).length = 0 + m := ⟨(keysOf f own).length - 0, by omega⟩
      have hsub : ((keysOf f own).length : Int) - (0 : Int) = (m : Int) := by omega
      have hml : ((keysOf f own).drop 0).length = m := by rw [List.length_drop]; omega
      have hmk := fun W => run_make_row' (P := Try.prog) 22 9 (.string .empty) 16 Try.underlying22 Try.info9 rfl .i64 .i64 m (by omega) (by omega) W
      simp only [madeCells_one] at hmk
      have m1 : (m : Int) ≤ 1000 := by omega
      obtain ⟨A', hcut, hA'⟩ := cut_l (P := Try.prog) 22 9 1 Try.underlying22 (by kernel_rfl) AA (keysOf f own).length c 0 (by omega)
      have hcut2 : ∀ W : World, (Instr.slice 22 (.slice AA (keysOf f own).length c) (some (.int .i64 (0 : Int))) none none).run Try.prog W = .ok (.slice A' m (c - 0)) W := fun W => by
        have := hcut W
        rw [show (keysOf f own).length - 0 = m by omega, show ((0 : Nat) : Int) = (0 : Int) by omega] at this
        exact this
      have CUT := Lib.hid ((SO.ofRow HR.out).cut hj HAC.out hA')
      have ML := Lib.hid hml
      have LT := lt_of_blk (CZ.out.blkNo HB.out)
      have NE : lb ≠ wz.heap.size := by omega
      have z1 := blk_cell (CZ.out.blkNo HB.out) 1
      have z0 : 0 ≤ (0 : Int) := by omega
      have z2 : (0 : Int) ≤ ((keysOf f own).length : Int) := by omega
      clear hcut hA' hm hml
      try clear i0 i1 i2 i3
      try clear hz
      go_wp2_with (refine wpList_copy_s rfl (.tmp 41) (.tmp 47) 22 22 rfl 9 Try.underlying22 (by kernel_rfl) wz.heap.size m A' (c - 0) ((keysOf f own).drop 0) (.string .empty) (by rw [ML.out]; rfl) (by rw [ML.out]; rfl) (by rw [ML.out]; exact blk_new _ _) (CUT.out.chgNo (CZ.out.alloc _)) ?_)
      intro w5 hb5 hc5
      have HB5 := Lib.hid hb5
      have C5 : Hid (Chg NoM w w5) := (CZ.out.alloc _).thenNew hc5 CZ.out.size
      clear hb5 hc5
      go_wp2_with fail
      go_ret
      refine ⟨wz.heap.size, ?_, CZ.out.size, ?_, C5.out⟩
      · rw [SL.out, ML.out]; rfl
      · rw [SL.out]; exact HB5.out
    · obtain ⟨i, rfl⟩ : ∃ i, j = i + 1 := ⟨j - 1, by omega⟩
      obtain ⟨s, hk⟩ : ∃ s, (keysOf f own)[i]? = some s := ⟨_, List.getElem?_eq_getElem (by omega)⟩
      have hmem : s ∈ own := (keys_mem f own s).1 (List.mem_of_getElem? hk)
      obtain ⟨fm, hm1, hm2⟩ := HM.out
      have HLK : Hid (∀ W, Chg NoM wr W → (Instr.lookup 57 (.map (some mb)) (.string s) false).run Try.prog W = .ok (.int .i64 (posOf f own s)) W) := fun W hW => by
        rw [(hm1.chgNo (C.out.trans hW)).look keyed9 Try.underlying57 zero3 (key_s (HS.out s hmem)) false, hm2.1 s hmem]; rfl
      obtain ⟨g, off, rfl, e0⟩ := (SO.ofRow (Row.chg HR.out C.out (fun _ _ _ _ _ h => h))).at i s hk
      have hq := kof_get hk
      have HQ := Lib.hid hq
      have i0 : (0 : Int) < (i : Int) + 1 := by omega
      have i1 : (i : Int) + 1 ≤ 1000 := by omega
      have i2 : (i : Int) < ((keysOf f own).length : Int) := by omega
      have i3 : (0 : Int) ≤ (i : Int) := by omega
      clear hmem hm1 hm2 hk hq
      by_cases hgt : n < posOf f own s
      · go_wp2_with fail
        refine wp_region_sig 18 (fun w' => Chg NoM wr w') [.L [0, 1, 2, 3, 4, 5, 6, 7, 8, 9, 10, 11, 12, 13, 14, 15, 16, 17], .N [18]] rfl (fun _ _ d _ _ h => by cases d <;> exact h) (fun _ h => h) (by kernel_rfl) ((Chg.refl _).drew) ?_
        apply sigL (Nat.le_refl _)
        · intro w' hS
          have y1 := hS.cellNo y1
          have y2 := hS.cellNo y2
          have e0 := hS.cellNo e0
          have hlk := HLK.out w' hS
          (simp only [wpPl, pickOps, List.filterMap_cons, List.filterMap_nil, List.getElem?_toArray, List.getElem?_cons_zero, List.getElem?_cons_succ]; iterate 18 (go_wp2; refine ⟨trivial, ?_⟩)); rfl
        apply sigN
        simp only [pickOps, List.filterMap_cons, List.filterMap_nil, List.getElem?_toArray, List.getElem?_cons_zero, List.getElem?_cons_succ]
        go_wp2_with fail
        apply sigEnd
        go_wp2_with fail
        refine ⟨⟨i, by omega, rfl, fun q hq => ?_, C.out.drew⟩, by simp [intOf]⟩
        rw [List.drop_eq_getElem_cons (List.getElem?_eq_some_iff.1 HQ.out).1, (List.getElem?_eq_some_iff.1 HQ.out).2, List.mem_cons] at hq
        rcases hq with rfl | hq
        · exact hgt
        · exact HD.out q hq
      · go_wp2_with fail
        refine wp_region_sig 18 (fun w' => Chg NoM wr w') [.L [0, 1, 2, 3, 4, 5, 6, 7, 8, 9, 10, 11, 12, 13, 14, 15, 16, 17], .N [18]] rfl (fun _ _ d _ _ h => by cases d <;> exact h) (fun _ h => h) (by kernel_rfl) ((Chg.refl _).drew) ?_
        apply sigL (Nat.le_refl _)
        · intro w' hS
          have y1 := hS.cellNo y1
          have y2 := hS.cellNo y2
          have e0 := hS.cellNo e0
          have hlk := HLK.out w' hS
          (simp only [wpPl, pickOps, List.filterMap_cons, List.filterMap_nil, List.getElem?_toArray, List.getElem?_cons_zero, List.getElem?_cons_succ]; iterate 18 (go_wp2; refine ⟨trivial, ?_⟩)); rfl
        apply sigN
        simp only [pickOps, List.filterMap_cons, List.filterMap_nil, List.getElem?_toArray, List.getElem?_cons_zero, List.getElem?_cons_succ]
        go_wp2_with fail
        apply sigEnd
        have SL := Lib.hid (since_drop hj HD.out (fun i' q h hq => by
          obtain rfl : i' = i := by omega
          rw [HQ.out] at hq
          cases hq
          show posOf f own s ≤ n
          omega))
        have CZ : Hid (Chg NoM w wr.drew) := C.out.drew
        generalize wr.drew = wz at CZ ⊢
        obtain ⟨z, hz⟩ : ∃ z : Int, z = (i : Int) + 1 := ⟨_, rfl⟩
        rw [← hz]
        have hgn : ¬ n < posOf f own s := by omega
        clear y1 y2 e0 hgt
        obtain ⟨m, hm⟩ : ∃ m : Nat, (keysOf f own).length = (i + 1) + m := ⟨(keysOf f own).length - (i + 1), by omega⟩
        have hsub : ((keysOf f own).length : Int) - z = (m : Int) := by omega
        have hml : ((keysOf f own).drop (i + 1)).length = m := by rw [List.length_drop]; omega
        have hmk := fun W => run_make_row' (P := Try.prog) 22 9 (.string .empty) 16 Try.underlying22 Try.info9 rfl .i64 .i64 m (by omega) (by omega) W
        simp only [madeCells_one] at hmk
        have m1 : (m : Int) ≤ 1000 := by omega
        obtain ⟨A', hcut, hA'⟩ := cut_l (P := Try.prog) 22 9 1 Try.underlying22 (by kernel_rfl) (some ⟨g, off, none⟩) (keysOf f own).length c (i + 1) (by omega)
        have hcut2 : ∀ W : World, (Instr.slice 22 (.slice (some ⟨g, off, none⟩) (keysOf f own).length c) (some (.int .i64 z)) none none).run Try.prog W = .ok (.slice A' m (c - (i + 1))) W := fun W => by
          have := hcut W
          rw [show (keysOf f own).length - (i + 1) = m by omega, show (((i + 1) : Nat) : Int) = z by omega] at this
          exact this
        have CUT := Lib.hid ((SO.ofRow HR.out).cut hj HAC.out hA')
        have ML := Lib.hid hml
        have LT := lt_of_blk (CZ.out.blkNo HB.out)
        have NE : lb ≠ wz.heap.size := by omega
        have z1 := blk_cell (CZ.out.blkNo HB.out) 1
        have z0 : 0 ≤ z := by omega
        have z2 : z ≤ ((keysOf f own).length : Int) := by omega
        clear hcut hA' hm hml
        try clear i0 i1 i2 i3
        try clear hz
        go_wp2_with (refine wpList_copy_s rfl (.tmp 41) (.tmp 47) 22 22 rfl 9 Try.underlying22 (by kernel_rfl) wz.heap.size m A' (c - (i + 1)) ((keysOf f own).drop (i + 1)) (.string .empty) (by rw [ML.out]; rfl) (by rw [ML.out]; rfl) (by rw [ML.out]; exact blk_new _ _) (CUT.out.chgNo (CZ.out.alloc _)) ?_)
        intro w5 hb5 hc5
        have HB5 := Lib.hid hb5
        have C5 : Hid (Chg NoM w w5) := (CZ.out.alloc _).thenNew hc5 CZ.out.size
        clear hb5 hc5
        go_wp2_with fail
        go_ret
        refine ⟨wz.heap.size, ?_, CZ.out.size, ?_, C5.out⟩
        · rw [SL.out, ML.out]; rfl
        · rw [SL.out]; exact HB5.out
end Go.Proofs.Ytpfkgigfkonocaa
