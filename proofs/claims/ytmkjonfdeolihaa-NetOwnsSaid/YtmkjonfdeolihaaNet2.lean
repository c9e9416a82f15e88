/- Contracts of package net, second part. -/
import Derived.Test.YtmkjonfdeolihaaNet
namespace Go.Proofs.Ytmkjonfdeolihaa
set_option linter.unusedVariables false
set_option linter.unusedSimpArgs false
open Go.RowKit

/-- A store into the net's own struct: what stays. -/
theorem net_store {w0 w : World} {base nb : Nat} {most lost : Int} {l : List Pk} {v : Value} (hnet : NetAt w base nb most l lost v) (k : Nat) (u : Value) (cs : Array Value)
    (hcs : (#[.int .i64 most, v, .int .i64 lost] : Array Value).setIfInBounds k u = cs) :
    (w.setCell ⟨nb, k, none⟩ u).heap[nb]? = some (.cells cs 61 (0, 0)) ∧ Row (w.setCell ⟨nb, k, none⟩ u) base 36 2 v l.length (pcells l) ∧ PBytes (w.setCell ⟨nb, k, none⟩ u) l := by
  obtain ⟨hbn, hblk, hrow, hby⟩ := hnet
  refine ⟨by rw [← hcs]; exact blk_set hblk k u, hrow.chg (Chg.store w ⟨nb, k, none⟩ u) (fun g _ _ hg _ e => hrow.own_ne hblk (by decide) (by rw [hg]; exact congrArg some e)), fun p hp => ?_⟩
  exact (Chg.store w ⟨nb, k, none⟩ u).block _ _ (hby p hp) (blk_ne (hby p hp) hblk (by decide))
theorem NetAt.chg {M : Nat → Obj → Prop} {w w' : World} {base nb : Nat} {most lost : Int} {l : List Pk} {v : Value} (h : NetAt w base nb most l lost v) (hc : Chg M w w')
    (h1 : ∀ k c f, base ≤ k → ¬ M k (.cells c 61 f)) (h2 : ∀ k c f, base ≤ k → ¬ M k (.cells c 36 f)) (h3 : ∀ p ∈ l, ∀ c f, ¬ M p.blk (.cells c 5 f)) : NetAt w' base nb most l lost v := by
  obtain ⟨hbn, hblk, hrow, hby⟩ := h
  exact ⟨hbn, hc.block _ _ hblk (h1 _ _ _ hbn), hrow.chg hc (fun g c f _ hb => h2 g c f hb), fun p hp => hc.block _ _ (hby p hp) (h3 p hp _ _)⟩
theorem NetAt.chgNo {w w' : World} {base nb : Nat} {most lost : Int} {l : List Pk} {v : Value} (h : NetAt w base nb most l lost v) (hc : Chg NoM w w') : NetAt w' base nb most l lost v :=
  h.chg hc (fun _ _ _ _ h => h) (fun _ _ _ _ h => h) (fun _ _ _ _ h => h)

set_option maxHeartbeats 400000 in
theorem put_no (base nb : Nat) (most lost : Int) (l : List Pk) (v : Value) (to : ByteArray) (A : Option Addr) (n c : Nat) (w : World) (hnet : NetAt w base nb most l lost v)
    (hge : most ≤ (l.length : Int)) (h0 : 0 ≤ lost) (h1 : lost ≤ 4611686018427387904) :
    Calls Try.prog 12 #[.pointer (some ⟨nb, 0, none⟩), .agg #[.string to, .slice A n c]] w fun e w' => e = .returned (.bool false) ∧ NetAt w' base nb most l (lost + 1) v ∧ Chg (NetX nb v) w w' := by
  obtain ⟨Av, cv, rfl, hcv, hcv2⟩ := hnet.2.2.1.slice
  have k0 : w.cell? ⟨nb, 0, none⟩ = some (.int .i64 most) := blk_cell hnet.2.1 0
  have k1 : w.cell? ⟨nb, 1, none⟩ = some (.slice Av l.length cv) := blk_cell hnet.2.1 1
  have k2 : w.cell? ⟨nb, 2, none⟩ = some (.int .i64 lost) := blk_cell hnet.2.1 2
  have f2 : w.frozen? ⟨nb, 2, none⟩ = false := blk_free hnet.2.1 2
  have hlw := lt_of_blk hnet.2.1
  have hne : nb ≠ w.heap.size := by omega
  have HN := Lib.hid hnet
  clear hnet
  go_enter Try.func12, Try.ntmps12
  go_wp2_with fail
  go_quiet (fail)
  go_wp2
  go_ret
  have hW : Chg NoM w ((w.alloc (.cells #[.string to, .slice A n c] 36)).drewN nq) := ((Chg.refl _).alloc _).drewN _
  obtain ⟨r1, r2, r3⟩ := net_store (w0 := w) (HN.out.chgNo hW) 2 (.int .i64 (lost + 1)) #[.int .i64 most, .slice Av l.length cv, .int .i64 (lost + 1)] rfl
  exact ⟨rfl, ⟨HN.out.1, r1, r2, r3⟩, hW.ofNo.setCell (fun o ho => .inl rfl) _⟩

set_option maxHeartbeats 400000 in
theorem len_any (base nb : Nat) (most lost : Int) (l : List Pk) (v : Value) (w : World) (hnet : NetAt w base nb most l lost v) :
    Calls Try.prog 14 #[.pointer (some ⟨nb, 0, none⟩)] w fun e w' => e = .returned (.int .i64 l.length) ∧ w = w' := by
  obtain ⟨Av, cv, rfl, hcv, hcv2⟩ := hnet.2.2.1.slice
  have k1 : w.cell? ⟨nb, 1, none⟩ = some (.slice Av l.length cv) := blk_cell hnet.2.1 1
  clear hnet
  go_enter Try.func14, Try.ntmps14
  go_wp2
  go_ret
  exact ⟨rfl, rfl⟩

set_option maxHeartbeats 400000 in
theorem lost_any (base nb : Nat) (most lost : Int) (l : List Pk) (v : Value) (w : World) (hnet : NetAt w base nb most l lost v) :
    Calls Try.prog 17 #[.pointer (some ⟨nb, 0, none⟩)] w fun e w' => e = .returned (.int .i64 lost) ∧ w = w' := by
  have k1 : w.cell? ⟨nb, 2, none⟩ = some (.int .i64 lost) := blk_cell hnet.2.1 2
  clear hnet
  go_enter Try.func17, Try.ntmps17
  go_wp2
  go_ret
  exact ⟨rfl, rfl⟩

theorem pcells_take (l : List Pk) (k : Nat) : pcells (l.take k) = (pcells l).take (k * 2) := by
  induction l generalizing k with
  | nil => simp [pcells]
  | cons p l ih =>
    cases k with
    | zero => simp [pcells]
    | succ k =>
      rw [List.take_succ_cons, show p :: l.take k = [p] ++ l.take k from rfl, show p :: l = [p] ++ l from rfl, pcells_append, pcells_append, ih, pcells_one, show (k + 1) * 2 = k * 2 + 1 + 1 by omega]
      rfl
theorem pcells_drop (l : List Pk) (k : Nat) : pcells (l.drop k) = (pcells l).drop (k * 2) := by
  induction l generalizing k with
  | nil => simp [pcells]
  | cons p l ih =>
    cases k with
    | zero => simp [pcells]
    | succ k =>
      rw [List.drop_succ_cons, ih, show p :: l = [p] ++ l from rfl, pcells_append, pcells_one, show (k + 1) * 2 = k * 2 + 1 + 1 by omega]
      rfl
theorem pcells_at (l : List Pk) (k : Nat) (p : Pk) (h : l[k]? = some p) : (pcells l)[k * 2]? = some (.string p.to) ∧ (pcells l)[k * 2 + 1]? = some (.slice (some ⟨p.blk, 0, none⟩) p.b.length p.b.length) := by
  have e : pcells (l.drop k) = (pcells l).drop (k * 2) := pcells_drop l k
  obtain ⟨hk, hp⟩ := List.getElem?_eq_some_iff.1 h
  rw [List.drop_eq_getElem_cons hk, hp, show p :: l.drop (k + 1) = [p] ++ l.drop (k + 1) from rfl, pcells_append, pcells_one] at e
  have h0 : ((pcells l).drop (k * 2))[0]? = some (.string p.to) := by rw [← e]; rfl
  have h1 : ((pcells l).drop (k * 2))[1]? = some (.slice (some ⟨p.blk, 0, none⟩) p.b.length p.b.length) := by rw [← e]; rfl
  rw [List.getElem?_drop] at h0 h1
  exact ⟨h0, h1⟩

/-- Out of range. -/
theorem take_no (base nb : Nat) (most lost k : Int) (l : List Pk) (v : Value) (w : World) (hnet : NetAt w base nb most l lost v) (hk : k < 0 ∨ (l.length : Int) ≤ k) :
    Calls Try.prog 15 #[.pointer (some ⟨nb, 0, none⟩), .int .i64 k] w fun e w' => e = .returned (.tuple #[.agg #[.string ⟨#[]⟩, .slice none 0 0], .bool false]) ∧ Chg NoM w w' := by
  obtain ⟨Av, cv, rfl, hcv, hcv2⟩ := hnet.2.2.1.slice
  have k1 : w.cell? ⟨nb, 1, none⟩ = some (.slice Av l.length cv) := blk_cell hnet.2.1 1
  have hlw := lt_of_blk hnet.2.1
  have hne : nb ≠ w.heap.size := by omega
  clear hnet
  by_cases h : k < 0
  · go_enter Try.func15, Try.ntmps15
    go_wp2
    refine bodyPost_ret (v := .tuple #[.agg #[.string ⟨#[]⟩, .slice none 0 0], .bool false]) (by simp [results, Try.results15, go_sem]) rfl ⟨rfl, ?_⟩
    exact (Chg.refl (M := NoM) w).alloc _
  · have h2 : (l.length : Int) ≤ k := by omega
    go_enter Try.func15, Try.ntmps15
    go_wp2
    refine bodyPost_ret (v := .tuple #[.agg #[.string ⟨#[]⟩, .slice none 0 0], .bool false]) (by simp [results, Try.results15, go_sem]) rfl ⟨rfl, ?_⟩
    exact (Chg.refl (M := NoM) w).alloc _

set_option maxHeartbeats 800000 in
theorem take_yes (base nb : Nat) (most lost : Int) (k : Nat) (l : List Pk) (v : Value) (p : Pk) (w : World) (hnet : NetAt w base nb most l lost v) (hp : l[k]? = some p) (hlen : l.length ≤ 1000) (hb0 : base ≤ w.heap.size) :
    Calls Try.prog 15 #[.pointer (some ⟨nb, 0, none⟩), .int .i64 k] w fun e w' => e = .returned (.tuple #[.agg #[.string p.to, .slice (some ⟨p.blk, 0, none⟩) p.b.length p.b.length], .bool true]) ∧
      (∃ v', NetAt w' base nb most (l.take k ++ l.drop (k + 1)) lost v' ∧ OwnGrow w v v') ∧ Chg (NetX nb v) w w' := by
  obtain ⟨Av, cv, rfl, hcv, hcv2⟩ := hnet.2.2.1.slice
  have hk : k < l.length := (List.getElem?_eq_some_iff.1 hp).1
  obtain ⟨g, cap, he, hbg, _, _, ⟨cur, hcur, _⟩, hcells⟩ := hnet.2.2.1.cells (by omega)
  cases he
  have HN := Lib.hid hnet
  obtain ⟨hq0, hq1⟩ := pcells_at l k p hp
  have e0 := hcells _ _ hq0
  have e1 := hcells _ _ hq1
  have k1 : w.cell? ⟨nb, 1, none⟩ = some (.slice (some ⟨g, 0, none⟩) l.length cv) := blk_cell hnet.2.1 1
  have hlw := lt_of_blk hnet.2.1
  have hgw := lt_of_blk hcur
  have hne : nb ≠ w.heap.size := by omega
  have hne2 : g ≠ w.heap.size := by omega
  have hne3 : nb ≠ w.heap.size + 1 := by omega
  have hne4 : g ≠ w.heap.size + 1 := by omega
  have HC := Lib.hid hcells
  have HU := Lib.hid hcur
  have HP := Lib.hid hp
  clear hnet hcells hcur hp hq0 hq1
  have i0 : ¬ ((k : Int) < 0) := by omega
  have i1 : ¬ ((l.length : Int) ≤ (k : Int)) := by omega
  go_enter Try.func15, Try.ntmps15
  go_wp2_with fail
  have cW : Chg NoM w ((w.alloc (.cells #[.string ⟨#[]⟩, .slice none 0 0] 36)).alloc (.cells #[.string p.to, .slice (some ⟨p.blk, 0, none⟩) p.b.length p.b.length] 36)) := ((Chg.refl _).alloc _).alloc _
  have b4 := blk_alloc (blk_new w (.cells #[.string ⟨#[]⟩, .slice none 0 0] 36)) (.cells #[.string p.to, .slice (some ⟨p.blk, 0, none⟩) p.b.length p.b.length] 36)
  have b6 := blk_new (w.alloc (.cells #[.string ⟨#[]⟩, .slice none 0 0] 36)) (.cells #[.string p.to, .slice (some ⟨p.blk, 0, none⟩) p.b.length p.b.length] 36)
  rw [show (w.alloc (.cells #[.string ⟨#[]⟩, .slice none 0 0] 36)).heap.size = w.heap.size + 1 by simp] at b6
  have zW : ((w.alloc (.cells #[.string ⟨#[]⟩, .slice none 0 0] 36)).alloc (.cells #[.string p.to, .slice (some ⟨p.blk, 0, none⟩) p.b.length p.b.length] 36)).heap.size = w.heap.size + 2 := by simp
  generalize (w.alloc (.cells #[.string ⟨#[]⟩, .slice none 0 0] 36)).alloc (.cells #[.string p.to, .slice (some ⟨p.blk, 0, none⟩) p.b.length p.b.length] 36) = W at cW b4 b6 zW ⊢
  have ZW := Lib.hid zW
  clear zW
  have H4 := Lib.hid b4
  have H6 := Lib.hid b6
  clear k1 e0 e1 b4 b6
  have NW : Hid (NetAt W base nb most l lost (.slice (some ⟨g, 0, none⟩) l.length cv)) := HN.out.chgNo cW
  obtain ⟨A', hcut, hA'⟩ := cut_l (P := Try.prog) 51 36 2 Try.underlying51 (by kernel_rfl) (some ⟨g, 0, none⟩) l.length cv (k + 1) (by omega)
  have hcut2 := cut_hm (P := Try.prog) 51 36 2 Try.underlying51 (by kernel_rfl) (some ⟨g, 0, none⟩) l.length cv k (by omega)
  have HA := Lib.hid hA'
  clear hA'
  have ek : ((k + 1 : Nat) : Int) = (k : Int) + 1 := by omega
  rw [ek] at hcut
  clear ek
  refine wp_region_sig 15 (fun w' => Chg NoM W w') [.P [0], .L [1, 2, 3, 4, 5, 6, 7, 8, 9, 10, 11, 12, 13, 14], .N [15, 16, 17, 18]] rfl (fun _ _ d _ _ h => by cases d <;> exact h) (fun _ h => h) (by kernel_rfl) ((Chg.refl _).drew) ?_
  apply sigP (Nat.le_refl _)
  · intro w'
    (simp only [wpPl, pickOps, List.filterMap_cons, List.filterMap_nil, List.getElem?_toArray, List.getElem?_cons_zero, List.getElem?_cons_succ]; iterate 1 (go_wp2; refine ⟨trivial, ?_⟩)); rfl
  apply sigL (by simp)
  · intro w' hS
    have k1' : w'.cell? ⟨nb, 1, none⟩ = some (.slice (some ⟨g, 0, none⟩) l.length cv) := blk_cell (hS.blkNo NW.out.2.1) 1
    (simp only [wpPl, pickOps, List.filterMap_cons, List.filterMap_nil, List.getElem?_toArray, List.getElem?_cons_zero, List.getElem?_cons_succ]; iterate 14 (go_wp2; refine ⟨trivial, ?_⟩)); rfl
  apply sigN
  simp only [pickOps, List.filterMap_cons, List.filterMap_nil, List.getElem?_toArray, List.getElem?_cons_zero, List.getElem?_cons_succ]
  refine wpList_append_Row _ rfl (.tmp 33) (.tmp 40) 51 rfl base 36 _ 2 40 Try.underlying51 Try.info36 rfl (by omega) (.slice (some ⟨g, 0, none⟩) k k) k (pcells (l.take k)) rfl ?c0 A' (l.length - (k + 1)) (cv - (k + 1)) (pcells (l.drop (k + 1))) rfl ?c1 ?c2 ?c3 ?c4 ?c5 ?c6 ?_
  case c0 => rw [pcells_take]; exact NW.out.2.2.1.take k (by omega)
  case c1 => rw [pcells_len, List.length_drop]
  case c2 => rw [pcells_drop]; exact NW.out.2.2.1.drop (k + 1) (by omega) (by omega) HA.out
  case c3 =>
    intro u hu
    simp only [pcells, List.mem_flatMap] at hu
    obtain ⟨q, _, hu⟩ := hu
    simp [Pk.cells] at hu
    rcases hu with rfl | rfl <;> rfl
  case c4 => omega
  case c5 => omega
  case c6 => have := cW.size; show base ≤ W.heap.size; omega
  intro v' w3 R
  obtain ⟨hrow3, hc3, _, hown3⟩ := R
  have sW := cW.size
  have s3 := hc3.size
  have n3 : ∀ b o, W.heap[b]? = some o → b ≠ g → w3.heap[b]? = some o := fun b o hb hne => hc3.block b o hb (fun ⟨h, _⟩ => hne (by simpa [Value.ownBlock] using h.symm))
  have ng : nb ≠ g := (blk_ne NW.out.2.1 (cW.blkNo HU.out) (by decide))
  have b3 := n3 nb _ NW.out.2.1 ng
  have q4 := n3 _ _ H4.out (Ne.symm hne2)
  have q6 := n3 _ _ H6.out (Ne.symm hne4)
  have k3 : w3.cell? ⟨nb, 1, none⟩ = some (.slice (some ⟨g, 0, none⟩) l.length cv) := blk_cell b3 1
  have f3 : w3.frozen? ⟨nb, 1, none⟩ = false := blk_free b3 1
  have k40 : w3.cell? ⟨w.heap.size, 0, none⟩ = some (.string ⟨#[]⟩) := blk_cell q4 0
  have k41 : w3.cell? ⟨w.heap.size, 1, none⟩ = some (.slice none 0 0) := blk_cell q4 1
  have f40 : w3.frozen? ⟨w.heap.size, 0, none⟩ = false := blk_free q4 0
  have f41 : w3.frozen? ⟨w.heap.size, 1, none⟩ = false := blk_free q4 1
  have k60 : w3.cell? ⟨w.heap.size + 1, 0, none⟩ = some (.string p.to) := blk_cell q6 0
  have k61 : w3.cell? ⟨w.heap.size + 1, 1, none⟩ = some (.slice (some ⟨p.blk, 0, none⟩) p.b.length p.b.length) := blk_cell q6 1
  obtain ⟨n', hn'⟩ : ∃ n', n' = k + (l.length - (k + 1)) := ⟨_, rfl⟩
  have elen : Hid (n' = (l.take k ++ l.drop (k + 1)).length) := by rw [hn', List.length_append, List.length_take, List.length_drop]; show _ = _; omega
  rw [← pcells_append, ← hn'] at hrow3
  clear hn'
  have P3 : Hid (PBytes w3 (l.take k ++ l.drop (k + 1))) := by
    intro q hq
    have hq' : q ∈ l := by
      rcases List.mem_append.1 hq with h | h
      · exact List.mem_of_mem_take h
      · exact List.mem_of_mem_drop h
    exact n3 _ _ (NW.out.2.2.2 q hq') (blk_ne (NW.out.2.2.2 q hq') (cW.blkNo HU.out) (by decide))
  have C3 : Hid (Chg (NetX nb (.slice (some ⟨g, 0, none⟩) l.length cv)) w w3) := cW.ofNo.then hc3.ofDrew (fun i o _ h => .inr ⟨by have := h.own; simpa [Value.ownBlock] using this, h.2⟩)
  have B3 := Lib.hid b3
  have R3 := Lib.hid hrow3
  have O3 : Hid (v'.ownBlock ≠ some nb) := hrow3.own_ne b3 (by decide)
  obtain ⟨A3, c3, rfl, _, _⟩ := hrow3.slice
  have W3 := Lib.hid hown3
  have Q4 := Lib.hid q4
  clear hrow3 hc3 b3 q4 q6 n3 hcut hcut2 hown3
  go_wp2_with fail
  apply sigEnd
  go_wp2_with fail
  refine bodyPost_ret (v := .tuple #[.agg #[.string p.to, .slice (some ⟨p.blk, 0, none⟩) p.b.length p.b.length], .bool true]) (by simp [results, Try.results15, go_sem, k40, k41]) rfl ⟨rfl, ⟨.slice A3 n' c3, ⟨HN.out.1, ?_, ?_, ?_⟩, ?_⟩, ?_⟩
  · exact blk_set_ne (blk_set_ne (blk_set B3.out 1 _) hne _) hne _
  · rw [← elen.out]
    have own3 : ∀ b, (.slice A3 n' c3 : Value).ownBlock = some b → b ≠ w.heap.size := by
      intro b hb e
      subst e
      rcases W3.out with h | h
      · rw [h] at hb; simp [Value.ownBlock] at hb; omega
      · rw [h] at hb
        have := ZW.out
        injection hb with hb
        have hb' : W.heap.size = w.heap.size := hb
        omega
    refine ((R3.out.chg (Chg.store w3 ⟨nb, 1, none⟩ _) ?_).chg (Chg.store _ ⟨w.heap.size, 0, none⟩ _) ?_).chg (Chg.store _ ⟨w.heap.size, 1, none⟩ _) ?_
    · exact fun b _ _ hb _ e => O3.out (by rw [hb]; exact congrArg some e)
    · exact fun b _ _ hb _ e => own3 b hb e
    · exact fun b _ _ hb _ e => own3 b hb e
  · intro q hq
    have h := P3.out q hq
    exact blk_set_ne (blk_set_ne (blk_set_ne h (blk_ne h B3.out (by decide)) _) (blk_ne h Q4.out (by decide)) _) (blk_ne h Q4.out (by decide)) _
  · intro i hi
    rcases W3.out with h | h
    · rw [h] at hi; exact .inl hi
    · rw [h] at hi; injection hi with hi; have hi' : W.heap.size = i := hi; have := ZW.out; exact .inr (by omega)
  · exact ((C3.out.setCell (fun o ho => .inl rfl) _).setCell (new_blk (Nat.le_refl _)) _).setCell (new_blk (Nat.le_refl _)) _
end Go.Proofs.Ytmkjonfdeolihaa
