/- Contracts of package net (layer 23): New, own, Put, Take, Copy, Move, Len, All, Lost. -/
import Derived.Test.YtmkjonfdeolihaaSig
import Derived.Laws.CopyOwn
import Derived.Deep.OwnRows
namespace Go.Proofs.Ytmkjonfdeolihaa
set_option linter.unusedVariables false
set_option linter.unusedSimpArgs false
open Go.RowKit

theorem Try.info5 : (Try.prog.info? 5).map (fun i => (i.zero, i.size, i.bytes)) = some (some (.int .u8 0), 1, 1) := by kernel_rfl
theorem Try.info36 : (Try.prog.info? 36).map (fun i => (i.zero, i.size, i.bytes)) = some (some (.agg #[.string .empty, .slice none 0 0]), 2, 40) := by kernel_rfl

/-- Bytes in a block of their own. -/
def OwnBytes (w : World) (bv : Value) (bs : List UInt8) : Prop :=
  ∃ bb, bv = .slice (some ⟨bb, 0, none⟩) bs.length bs.length ∧ w.heap[bb]? = some (.cells (bvals bs).toArray 5 (0, 0))

set_option maxHeartbeats 400000 in
theorem own_any (to : ByteArray) (A : Option Addr) (c : Nat) (bs : List UInt8) (w : World) (hb : Bytes w A bs) (hn : bs.length ≤ 1000) :
    Calls Try.prog 27 #[.agg #[.string to, .slice A bs.length c]] w fun e w' => ∃ bb, e = .returned (.agg #[.string to, .slice (some ⟨bb, 0, none⟩) bs.length bs.length]) ∧ w.heap.size ≤ bb ∧
      w'.heap[bb]? = some (.cells (bvals bs).toArray 5 (0, 0)) ∧ Chg NoM w w' := by
  have hmk := fun W => run_make_row' (P := Try.prog) 34 5 (.int .u8 0) 1 Try.underlying34 Try.info5 rfl .i64 .i64 bs.length (by omega) (by omega) W
  simp only [madeCells_one] at hmk
  have hfit : bs.length ≤ 1000 := hn
  go_enter Try.func27, Try.ntmps27
  go_wp2_with (with_reducible refine wpList_copy_fresh rfl (.tmp 8) (.tmp 10) 34 34 rfl 5 Try.underlying34 rfl _ _ _ _ bs (.int .u8 0) rfl rfl ?hg ?hb ?_)
  case hg => simpa using blk_new ((w.alloc _).alloc _) _
  case hb => exact hb.chg ((((Chg.refl (M := NoM) _).alloc _).alloc _).alloc _) (fun _ _ _ _ h => h)
  intro w1 hw1 hc1
  have b0 : w1.heap[w.heap.size]? = some (.cells #[.string to, .slice A bs.length c] 36 (0, 0)) := hc1.block _ _ (blk_alloc (blk_alloc (blk_new w _) _) _) (by omega)
  have b1 : w1.heap[w.heap.size + 1]? = some (.cells #[.string ⟨#[]⟩, .slice none 0 0] 36 (0, 0)) := hc1.block _ _ (blk_alloc (by simpa using blk_new (w.alloc _) _) _) (by omega)
  have k0 : w1.cell? ⟨w.heap.size, 0, none⟩ = some (.string to) := blk_cell b0 0
  have k1 : w1.cell? ⟨w.heap.size + 1, 0, none⟩ = some (.string ⟨#[]⟩) := blk_cell b1 0
  have k2 : w1.cell? ⟨w.heap.size + 1, 1, none⟩ = some (.slice none 0 0) := blk_cell b1 1
  have f0 : w1.frozen? ⟨w.heap.size + 1, 0, none⟩ = false := blk_free b1 0
  have f1 : w1.frozen? ⟨w.heap.size + 1, 1, none⟩ = false := blk_free b1 1
  have s1 := hc1.size
  have hc0 : Chg NoM w w1 := ((((Chg.refl (M := NoM) w).alloc _).alloc _).alloc _).thenNew hc1 (by omega)
  clear hc1
  have hh := Lib.hid hw1
  clear hw1 hmk b0 b1
  go_wp2
  refine bodyPost_ret (v := .agg #[.string to, .slice (some ⟨w.heap.size + 1 + 1, 0, none⟩) bs.length bs.length]) (by simp [results, Try.results27, go_sem, k1, k2]) rfl ⟨_, rfl, by omega, ?_, ?_⟩
  · exact blk_set_ne (blk_set_ne hh.out (by simp) _) (by simp) _
  · exact (hc0.setCell (new_blk (by simp)) _).setCell (new_blk (by simp)) _

/-- A packet, and where its bytes lie. -/
structure Pk where
  to : ByteArray
  b : List UInt8
  blk : Nat
def Pk.cells (p : Pk) : List Value := [.string p.to, .slice (some ⟨p.blk, 0, none⟩) p.b.length p.b.length]
def pcells (l : List Pk) : List Value := l.flatMap Pk.cells
theorem pcells_append (l m : List Pk) : pcells (l ++ m) = pcells l ++ pcells m := by simp [pcells]
theorem pcells_one (p : Pk) : pcells [p] = [.string p.to, .slice (some ⟨p.blk, 0, none⟩) p.b.length p.b.length] := by simp [pcells, Pk.cells]
theorem pcells_len (l : List Pk) : (pcells l).length = l.length * 2 := by
  induction l with
  | nil => rfl
  | cons p l ih => rw [show p :: l = [p] ++ l from rfl, pcells_append, List.length_append, ih, pcells_one]; simp; omega

def PBytes (w : World) (l : List Pk) : Prop := ∀ p ∈ l, w.heap[p.blk]? = some (.cells (bvals p.b).toArray 5 (0, 0))
/-- What a net is in memory. -/
def NetAt (w : World) (base nb : Nat) (most : Int) (l : List Pk) (lost : Int) (v : Value) : Prop :=
  base ≤ nb ∧ w.heap[nb]? = some (.cells #[.int .i64 most, v, .int .i64 lost] 61 (0, 0)) ∧ Row w base 36 2 v l.length (pcells l) ∧ PBytes w l
/-- What a net's methods may change. -/
def NetM (base : Nat) : Nat → Obj → Prop := fun k o => base ≤ k ∧ ∃ c f, o = .cells c 36 f ∨ o = .cells c 61 f

/-- What one call of a net's method may change: its struct, and the row that it holds. -/
def NetX (nb : Nat) (v : Value) : Nat → Obj → Prop := fun k o => k = nb ∨ RowM v 36 k o
/-- Where a new row may lie. -/
def OwnGrow (w : World) (v v' : Value) : Prop := ∀ i, v'.ownBlock = some i → v.ownBlock = some i ∨ w.heap.size ≤ i
theorem NetX.new {w : World} {base nb : Nat} {most lost : Int} {l : List Pk} {v : Value} (h : NetAt w base nb most l lost v) : ∀ (i : Nat) (o : Obj), NetX nb v i o → base ≤ i := by
  rintro i o (rfl | h')
  · exact h.1
  · exact h.2.2.1.own_ge h'.own
theorem NetX.old {w : World} {base nb : Nat} {most lost : Int} {l : List Pk} {v : Value} (h : NetAt w base nb most l lost v) {i : Nat} {o : Obj} (hi : w.heap.size ≤ i) : ¬ NetX nb v i o := by
  rintro (rfl | h')
  · have := lt_of_blk h.2.1; omega
  · have := h.2.2.1.own_lt h'.own; omega
theorem NetX.ne {w : World} {base nb : Nat} {most lost : Int} {l : List Pk} {v : Value} (h : NetAt w base nb most l lost v) {i : Nat} {c : Array Value} {t : TypeId} {f : Nat × Nat} (hb : w.heap[i]? = some (.cells c t f)) (h1 : t ≠ 36) (h2 : t ≠ 61) : ¬ NetX nb v i (.cells c t f) := by
  rintro (rfl | h')
  · rw [h.2.1] at hb; cases hb; exact h2 rfl
  · exact RowM.ne h1 h'
theorem NetM.ne5 {base k : Nat} {c : Array Value} {t : TypeId} {f : Nat × Nat} (h1 : t ≠ 36) (h2 : t ≠ 61) : ¬ NetM base k (.cells c t f) := by
  rintro ⟨_, c', f', h | h⟩
  · injection h with _ h; exact h1 h
  · injection h with _ h; exact h2 h

set_option maxHeartbeats 400000 in
theorem put_yes (base nb : Nat) (most lost : Int) (l : List Pk) (v : Value) (to : ByteArray) (A : Option Addr) (c : Nat) (bs : List UInt8) (w : World) (hnet : NetAt w base nb most l lost v) (hb : Bytes w A bs) (hn : bs.length ≤ 1000)
    (hlt : (l.length : Int) < most) (hm : most ≤ 1000) :
    Calls Try.prog 12 #[.pointer (some ⟨nb, 0, none⟩), .agg #[.string to, .slice A bs.length c]] w fun e w' => e = .returned (.bool true) ∧ ∃ bb v', w.heap.size ≤ bb ∧ NetAt w' base nb most (l ++ [⟨to, bs, bb⟩]) lost v' ∧ Chg (NetX nb v) w w' := by
  obtain ⟨hbn, hblk, hrow, hby⟩ := hnet
  obtain ⟨Av, cv, rfl, hcv, hcv2⟩ := hrow.slice
  have k0 : w.cell? ⟨nb, 0, none⟩ = some (.int .i64 most) := blk_cell hblk 0
  have k1 : w.cell? ⟨nb, 1, none⟩ = some (.slice Av l.length cv) := blk_cell hblk 1
  have hnot : ¬ most ≤ (l.length : Int) := by omega
  have hlw := lt_of_blk hblk
  have hne : nb ≠ w.heap.size := by omega
  go_enter Try.func12, Try.ntmps12
  go_wp2_with fail
  go_quiet (fail)
  go_wp2_with fail
  have cW : Chg NoM w ((w.alloc (.cells #[.string to, .slice A bs.length c] 36)).drewN nq) := ((Chg.refl _).alloc _).drewN _
  have bW : ((w.alloc (.cells #[.string to, .slice A bs.length c] 36)).drewN nq).heap[w.heap.size]? = some (.cells #[.string to, .slice A bs.length c] 36 (0, 0)) := blk_new w _
  generalize (w.alloc (.cells #[.string to, .slice A bs.length c] 36)).drewN nq = W at cW bW ⊢
  have hblkW := cW.blkNo hblk
  have hrowW := hrow.chg cW (fun _ _ _ _ _ h => h)
  have hbW := hb.chg cW (fun _ _ _ _ h => h)
  have sW := cW.size
  clear k0 k1
  refine wp_region_sig 8 (fun w' => Chg NoM W w') [.P [0, 1, 2, 3], .L [4, 5], .K 6, .K 7, .N [8, 9, 10, 11]] rfl (fun _ _ d _ _ h => by cases d <;> exact h) (fun _ h => h) (by kernel_rfl) ((Chg.refl _).drew) ?_
  apply sigP (Nat.le_refl _)
  · intro w'
    (simp only [wpPl, pickOps, List.filterMap_cons, List.filterMap_nil, List.getElem?_toArray, List.getElem?_cons_zero, List.getElem?_cons_succ]; iterate 4 (go_wp2; refine ⟨trivial, ?_⟩)); rfl
  apply sigL (by simp)
  · intro w' hS
    have k1' : w'.cell? ⟨nb, 1, none⟩ = some (.slice Av l.length cv) := blk_cell (hS.blkNo hblkW) 1
    have k2' : w'.cell? ⟨w.heap.size, 0, none⟩ = some (.string to) := blk_cell (hS.blkNo bW) 0
    have k3' : w'.cell? ⟨w.heap.size, 1, none⟩ = some (.slice A bs.length c) := blk_cell (hS.blkNo bW) 1
    (simp only [wpPl, pickOps, List.filterMap_cons, List.filterMap_nil, List.getElem?_toArray, List.getElem?_cons_zero, List.getElem?_cons_succ]; iterate 2 (go_wp2; refine ⟨trivial, ?_⟩)); rfl
  apply sigK
  simp only [pickOps, List.filterMap_cons, List.filterMap_nil, List.getElem?_toArray, List.getElem?_cons_zero, List.getElem?_cons_succ]
  go_wp2_with fail
  refine (own_any to A c bs _ (by exact hbW) hn).mono ?_
  rintro e w1 ⟨bb, rfl, hbb, hblk1, hc1⟩
  have hc1' : Chg NoM W w1 := ((Chg.refl W).drew).trans hc1
  have hbb' : W.heap.size ≤ bb := hbb
  have s1 := hc1'.size
  clear hc1 hbb
  have H1 := Lib.hid hblk1
  clear hblk1
  go_wp2_with fail
  refine ⟨hc1', ?_⟩
  apply sigK
  simp only [pickOps, List.filterMap_cons, List.filterMap_nil, List.getElem?_toArray, List.getElem?_cons_zero, List.getElem?_cons_succ]
  go_wp2_with fail
  refine ⟨hc1'.alloc _, ?_⟩
  apply sigN
  simp only [pickOps, List.filterMap_cons, List.filterMap_nil, List.getElem?_toArray, List.getElem?_cons_zero, List.getElem?_cons_succ]
  refine wpList_append_Row _ rfl (.tmp 26) (.tmp 29) 51 rfl base 36 _ 2 40 Try.underlying51 Try.info36 rfl (by omega) (.slice Av l.length cv) l.length (pcells l) rfl ?c0 (some ⟨w1.heap.size, 0, none⟩) 1 1 [.string to, .slice (some ⟨bb, 0, none⟩) bs.length bs.length] rfl rfl ?c1 ?c2 ?c3 ?c4 ?c5 ?_
  case c0 => exact hrowW.chg (hc1'.alloc _) (fun _ _ _ _ _ h => h)
  case c1 => exact fun _ => ⟨_, rfl, news_blk (blk_new w1 _)⟩
  case c2 => intro u hu; simp at hu; rcases hu with rfl | rfl <;> rfl
  case c3 => omega
  case c4 => omega
  case c5 => simp; omega
  intro v' w3 R
  obtain ⟨hrow3, hc3, _, _⟩ := R
  have b3 : w3.heap[nb]? = some (.cells #[.int .i64 most, .slice Av l.length cv, .int .i64 lost] 61 (0, 0)) :=
    hc3.block nb _ (blk_alloc (hc1'.blkNo hblkW) _) (by rintro ⟨_, c, f, h⟩; cases h)
  have k3 : w3.cell? ⟨nb, 1, none⟩ = some (.slice Av l.length cv) := blk_cell b3 1
  have f3 : w3.frozen? ⟨nb, 1, none⟩ = false := blk_free b3 1
  have B3 := Lib.hid b3
  have H3 : Hid (w3.heap[bb]? = some (.cells (bvals bs).toArray 5 (0, 0))) := hc3.block bb _ (blk_alloc H1.out _) (by rintro ⟨_, c, f, h⟩; cases h)
  have R3 := Lib.hid hrow3
  have C3 : Hid (Chg (NetX nb (.slice Av l.length cv)) w w3) := ((cW.ofNo).trans (hc1'.alloc _).ofNo).then hc3 (fun k o hk h => .inr h)
  have P3 : Hid (PBytes w3 l) := fun p hp => hc3.block _ _ (blk_alloc (hc1'.blkNo (cW.blkNo (hby p hp))) _) (by rintro ⟨_, c, f, h⟩; cases h)
  have N3 : Hid (v'.ownBlock ≠ some nb) := hrow3.own_ne b3 (by decide)
  have HB0 := Lib.hid hblk
  clear hc3 b3 hrow3 hc1' H1 hrowW hbW hblkW bW cW hblk hrow hb hby
  obtain ⟨A3, c3, rfl, _, _⟩ := R3.out.slice
  go_wp2_with fail
  apply sigEnd
  go_wp2_with fail
  go_ret
  refine ⟨rfl, bb, _, by omega, ⟨hbn, blk_set B3.out 1 _, ?_, ?_⟩, ?_⟩
  · rw [pcells_append, pcells_one, List.length_append, List.length_singleton]
    exact R3.out.chg (Chg.store w3 ⟨nb, 1, none⟩ _) (fun g _ _ hg _ e => N3.out (by rw [hg]; exact congrArg some e))
  · intro p hp
    rcases List.mem_append.1 hp with hp | hp
    · exact (Chg.store w3 ⟨nb, 1, none⟩ _).block _ _ (P3.out p hp) (blk_ne (P3.out p hp) B3.out (by decide))
    · obtain rfl : p = ⟨to, bs, bb⟩ := by simpa using hp
      exact (Chg.store w3 ⟨nb, 1, none⟩ _).block _ _ H3.out (blk_ne H3.out B3.out (by decide))
  · exact C3.out.setCell (fun o ho => .inl rfl) _
end Go.Proofs.Ytmkjonfdeolihaa
