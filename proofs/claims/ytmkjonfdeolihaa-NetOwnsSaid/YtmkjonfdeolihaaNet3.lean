/- Contracts of package net, third part: Move, Copy. -/
import Derived.Test.YtmkjonfdeolihaaNet2
namespace Go.Proofs.Ytmkjonfdeolihaa
set_option linter.unusedVariables false
set_option linter.unusedSimpArgs false
open Go.RowKit

set_option maxHeartbeats 800000 in
theorem move_yes (base nb : Nat) (most lost : Int) (k : Nat) (l : List Pk) (v : Value) (p : Pk) (w : World) (hnet : NetAt w base nb most l lost v) (hp : l[k]? = some p) (hlen : l.length ≤ 1000) (hb0 : base ≤ w.heap.size) :
    Calls Try.prog 23 #[.pointer (some ⟨nb, 0, none⟩), .int .i64 k] w fun e w' => e = .returned (.bool true) ∧
      (∃ v', NetAt w' base nb most (l.take k ++ l.drop (k + 1) ++ [p]) lost v') ∧ Chg (NetX nb v) w w' := by
  have hpb := hnet.2.2.2 p (List.mem_of_getElem? hp)
  have HPB := Lib.hid hpb
  have HB0 := Lib.hid hnet.2.1
  have hk : k < l.length := (List.getElem?_eq_some_iff.1 hp).1
  have hlt : (l.take k ++ l.drop (k + 1)).length + 1 = l.length := by rw [List.length_append, List.length_take, List.length_drop]; omega
  have HT := Lib.hid hlt
  have hle : (l.take k ++ l.drop (k + 1)).length ≤ 999 := by omega
  have C := take_yes base nb most lost k l v p w hnet hp hlen hb0
  have HC := Lib.hid C
  have HN := Lib.hid hnet
  clear C hnet hp hpb hlt hlen
  generalize l.take k ++ l.drop (k + 1) = L at *
  go_enter Try.func23, Try.ntmps23
  go_wp2_with fail
  refine HC.out.mono ?_
  rintro e w1 ⟨rfl, ⟨v1, hn1, hg1⟩, hc1⟩
  have G1 := Lib.hid hg1
  clear hg1
  have N1 := Lib.hid hn1
  have C1 := Lib.hid hc1
  have s1 := hc1.size
  obtain ⟨Av, cv, rfl, hcv, hcv2⟩ := hn1.2.2.1.slice
  clear hn1 hc1
  go_wp2_with fail
  have cW : Chg NoM w1 (w1.alloc (.cells #[.string p.to, .slice (some ⟨p.blk, 0, none⟩) p.b.length p.b.length] 36)) := (Chg.refl _).alloc _
  have bW := blk_new w1 (.cells #[.string p.to, .slice (some ⟨p.blk, 0, none⟩) p.b.length p.b.length] 36)
  generalize w1.alloc (.cells #[.string p.to, .slice (some ⟨p.blk, 0, none⟩) p.b.length p.b.length] 36) = W at cW bW ⊢
  have NW := Lib.hid (N1.out.chgNo cW)
  have BW := Lib.hid bW
  have sW := cW.size
  clear bW
  refine wp_region_sig 7 (fun w' => Chg NoM W w') [.P [0], .L [1, 2, 3, 4, 5], .K 6, .N [7, 8, 9, 10]] rfl (fun _ _ d _ _ h => by cases d <;> exact h) (fun _ h => h) (by kernel_rfl) ((Chg.refl _).drew) ?_
  apply sigP (Nat.le_refl _)
  · intro w'
    (simp only [wpPl, pickOps, List.filterMap_cons, List.filterMap_nil, List.getElem?_toArray, List.getElem?_cons_zero, List.getElem?_cons_succ]; iterate 1 (go_wp2; refine ⟨trivial, ?_⟩)); rfl
  apply sigL (by simp)
  · intro w' hS
    have k1' : w'.cell? ⟨nb, 1, none⟩ = some (.slice Av L.length cv) := blk_cell (hS.blkNo NW.out.2.1) 1
    have k2' : w'.cell? ⟨w1.heap.size, 0, none⟩ = some (.string p.to) := blk_cell (hS.blkNo BW.out) 0
    have k3' : w'.cell? ⟨w1.heap.size, 1, none⟩ = some (.slice (some ⟨p.blk, 0, none⟩) p.b.length p.b.length) := blk_cell (hS.blkNo BW.out) 1
    (simp only [wpPl, pickOps, List.filterMap_cons, List.filterMap_nil, List.getElem?_toArray, List.getElem?_cons_zero, List.getElem?_cons_succ]; iterate 5 (go_wp2; refine ⟨trivial, ?_⟩)); rfl
  apply sigK
  simp only [pickOps, List.filterMap_cons, List.filterMap_nil, List.getElem?_toArray, List.getElem?_cons_zero, List.getElem?_cons_succ]
  go_wp2_with fail
  refine ⟨((Chg.refl W).drew).alloc _, ?_⟩
  apply sigN
  simp only [pickOps, List.filterMap_cons, List.filterMap_nil, List.getElem?_toArray, List.getElem?_cons_zero, List.getElem?_cons_succ]
  refine wpList_append_Row _ rfl (.tmp 18) (.tmp 20) 51 rfl base 36 _ 2 40 Try.underlying51 Try.info36 rfl (by omega) (.slice Av L.length cv) L.length (pcells L) rfl ?c0 (some ⟨W.heap.size, 0, none⟩) 1 1 (pcells [p]) rfl ?cx ?c1 ?c2 ?c3 ?c4 ?c5 ?_
  case c0 => exact NW.out.2.2.1.chg (M := NoM) (((Chg.refl W).drew).alloc _) (fun _ _ _ _ _ h => h)
  case cx => rw [pcells_len]; rfl
  case c1 => rw [pcells_one]; exact fun _ => ⟨_, rfl, news_blk (blk_new W.drew _)⟩
  case c2 => intro u hu; rw [pcells_one] at hu; simp at hu; rcases hu with rfl | rfl <;> rfl
  case c3 => omega
  case c4 => omega
  case c5 => show base ≤ (W.heap.push _).size; simp; omega
  intro v' w3 R
  obtain ⟨hrow3, hc3, _, _⟩ := R
  have b3 : w3.heap[nb]? = some (.cells #[.int .i64 most, .slice Av L.length cv, .int .i64 lost] 61 (0, 0)) :=
    hc3.block nb _ (blk_alloc NW.out.2.1 _) (by rintro ⟨_, c, f, h⟩; cases h)
  have k3 : w3.cell? ⟨nb, 1, none⟩ = some (.slice Av L.length cv) := blk_cell b3 1
  have f3 : w3.frozen? ⟨nb, 1, none⟩ = false := blk_free b3 1
  have B3 := Lib.hid b3
  rw [← pcells_append] at hrow3
  have R3 := Lib.hid hrow3
  have C3 : Hid (Chg (NetX nb v) w w3) := (C1.out.trans (cW.trans (((Chg.refl W).drew).alloc _)).ofNo).then hc3 (fun k o hk h => .inr ⟨by
    rcases G1.out k h.own with h' | h'
    · exact h'
    · have := lt_of_blk hk; omega, h.2⟩)
  have P3 : Hid (PBytes w3 (L ++ [p])) := fun q hq => by
    have hq' : W.heap[q.blk]? = some (.cells (bvals q.b).toArray 5 (0, 0)) := by
      rcases List.mem_append.1 hq with h | h
      · exact NW.out.2.2.2 q h
      · obtain rfl : q = p := by simpa using h
        exact cW.blkNo (C1.out.block _ _ HPB.out (NetX.ne HN.out HPB.out (by decide) (by decide)))
    exact hc3.block _ _ (blk_alloc hq' _) (by rintro ⟨_, c, f, h⟩; cases h)
  have O3 : Hid (v'.ownBlock ≠ some nb) := hrow3.own_ne b3 (by decide)
  clear hc3 b3 hrow3 cW
  obtain ⟨A3, c3, rfl, _, _⟩ := R3.out.slice
  go_wp2_with fail
  apply sigEnd
  go_wp2_with fail
  go_ret
  refine ⟨rfl, ⟨.slice A3 (L.length + 1) c3, N1.out.1, blk_set B3.out 1 _, ?_, ?_⟩, ?_⟩
  · rw [List.length_append, List.length_singleton]
    exact R3.out.chg (Chg.store w3 ⟨nb, 1, none⟩ _) (fun g _ _ hg _ e => O3.out (by rw [hg]; exact congrArg some e))
  · intro q hq
    exact blk_set_ne (P3.out q hq) (blk_ne (P3.out q hq) B3.out (by decide)) _
  · exact C3.out.setCell (fun o ho => .inl rfl) _

theorem move_no (base nb : Nat) (most lost k : Int) (l : List Pk) (v : Value) (w : World) (hnet : NetAt w base nb most l lost v) (hk : k < 0 ∨ (l.length : Int) ≤ k) :
    Calls Try.prog 23 #[.pointer (some ⟨nb, 0, none⟩), .int .i64 k] w fun e w' => e = .returned (.bool false) ∧ Chg NoM w w' := by
  have HC := Lib.hid (take_no base nb most lost k l v w hnet hk)
  clear hnet hk
  go_enter Try.func23, Try.ntmps23
  go_wp2_with fail
  refine HC.out.mono ?_
  rintro e w1 ⟨rfl, hc1⟩
  have C1 := Lib.hid hc1
  clear hc1
  go_wp2
  go_ret
  exact ⟨rfl, C1.out.alloc _⟩
end Go.Proofs.Ytmkjonfdeolihaa
