/- Contracts of package delta (layer 20): New, Touch, At, Room, Pos. -/
import Derived.Test.YtpfkgigfkonocaaDStr
import Derived.Test.YtpfkgigfkonocaaDLaw
import Derived.Test.YtpfkgigfkonocaaMapF
namespace Go.Proofs.Ytpfkgigfkonocaa
set_option linter.unusedVariables false
set_option linter.unusedSimpArgs false
open Go.RowKit

theorem keyed9 : Maps.Keyed Try.prog 9 := Maps.string_keyed Try.underlying9
theorem zero3 : ∀ w, (zeroValue 3).run Try.prog w = .ok (.int .i64 0) w := fun w => by kernel_rfl
theorem key_s {s : ByteArray} (h : s.size ≤ 1000) : keyOf Try.prog 9 (.string s) = some (.string s.data.toList) := WideMaps.keyOf_string_mk Try.underlying9 (by simp only [maxLen]; omega)
theorem wpList_look_run {P : Program} {w : World} {ops : Array Oper} {rest : List Oper} {o : Oper} {a : Act} {Q : Exit → Act → World → Prop} (hgd : o.guard = none) (m x : Operand) (t : TypeId) (c : Bool) (ho : o.op = .lookup t m x c)
    {u : Value} (hrun : (Instr.lookup t (a.eval m) (a.eval x) c).run P w = .ok u w) (hK : wpList P ops Q rest (a.put o.dst u) w) : wpList P ops Q (o :: rest) a w := by
  refine wpList_plain hgd fun K' hK' => ?_
  unfold Oper.wp
  simp only [execOp, ho, Sem.run_bind, Sem.run_pure, Result.andThen_ok, hrun]
  exact hK' _ _ hK

def Fm (f : Int) (own : List ByteArray) (fm : Value → Option Value) : Prop := (∀ s : ByteArray, s ∈ own → fm (.string s) = some (.int .i64 (posOf f own s))) ∧ ∀ s : ByteArray, s ∉ own → fm (.string s) = none
theorem Fm.snoc {f : Int} {own : List ByteArray} {fm : Value → Option Value} (h : Fm f own fm) (s : ByteArray) : Fm f (own ++ [s]) (fput fm (.string s) (some (.int .i64 (f + own.length + 1)))) := by
  refine ⟨fun x hx => ?_, fun x hx => ?_⟩
  · by_cases e : x = s
    · subst e
      rw [fput_same, posOf_snoc, if_pos rfl]
      congr 2
      omega
    · rw [fput_ne _ _ _ _ (fun h => e (by injection h)), posOf_snoc, if_neg (fun h => e h.symm)]
      refine h.1 x ?_
      simp [e] at hx
      exact hx
  · simp at hx
    rw [fput_ne _ _ _ _ (fun h => hx.2 (by injection h))]
    exact h.2 x hx.1
/-- A log in memory. -/
structure LogAt (w : World) (base lb : Nat) (f : Int) (own : List ByteArray) (most : Int) (nb mb : Nat) (v : Value) : Prop where
  box : w.heap[lb]? = some (.cells #[.pointer (some ⟨nb, 0, none⟩), v, .map (some mb)] 59 (0, 0))
  ctr : CtrAt w nb (f + own.length) most
  map : ∃ fm, MapAt Try.prog 9 w mb fm ∧ Fm f own fm
  row : Row w base 9 1 v (keysOf f own).length (scells (keysOf f own))
  lo : base ≤ lb ∧ base ≤ nb ∧ base ≤ mb
/-- What a change may change. -/
def LogM (lb nb mb : Nat) (v : Value) : Nat → Obj → Prop := fun k o => (k = lb ∧ ∃ c f, o = .cells c 59 f) ∨ (k = nb ∧ ∃ c f, o = .cells c 70 f) ∨ mapM mb k o ∨ RowM v 9 k o
def OwnG (w : World) (v v' : Value) : Prop := ∀ g, v'.ownBlock = some g → v.ownBlock = some g ∨ w.heap.size ≤ g
variable {w w' : World} {base lb nb mb : Nat} {f most : Int} {own : List ByteArray} {v : Value}
theorem LogAt.chgNo (h : LogAt w base lb f own most nb mb v) (hc : Chg NoM w w') : LogAt w' base lb f own most nb mb v :=
  ⟨hc.blkNo h.box, hc.blkNo h.ctr, h.map.imp fun _ hm => ⟨hm.1.chgNo hc, hm.2⟩, Row.chg h.row hc (fun _ _ _ _ _ h => h), h.lo⟩
theorem LogM.new (h : LogAt w base lb f own most nb mb v) : ∀ i o, LogM lb nb mb v i o → base ≤ i := by
  rintro i o (⟨rfl, _⟩ | ⟨rfl, _⟩ | ⟨rfl, _⟩ | h')
  · exact h.lo.1
  · exact h.lo.2.1
  · exact h.lo.2.2
  · exact Row.own_ge h.row h'.own
theorem LogAt.slice (h : LogAt w base lb f own most nb mb v) : ∃ A c, v = .slice A (keysOf f own).length c ∧ SO w A (keysOf f own) ∧ (keysOf f own).length ≤ c ∧ c ≤ maxLen := by
  obtain ⟨A, c, rfl, h1, h2⟩ := Row.slice h.row
  exact ⟨A, c, rfl, SO.ofRow h.row, h1, h2⟩

set_option maxHeartbeats 1000000 in
theorem new_yes (from_ most : Int) (w : World) (h0 : 0 ≤ from_) (h1 : from_ ≤ most) (h2 : 1 ≤ most) (h3 : most ≤ 1099511627776) :
    Calls Try.prog 8 #[.int .i64 from_, .int .i64 most] w fun e w' => e = .returned (.tuple #[.pointer (some ⟨w.heap.size + 2, 0, none⟩), .int .i64 0]) ∧ LogAt w' w.heap.size (w.heap.size + 2) from_ [] most w.heap.size (w.heap.size + 1) (.slice none 0 0) ∧ Chg NoM w w' := by
  have H := Lib.hid (cnew_yes from_ most w h0 h1 h2 h3)
  have hmm := @run_makeMap Try.prog
  go_enter Try.func8, Try.ntmps8
  go_wp2_with fail
  refine H.out.mono ?_
  rintro e w1 ⟨rfl, hc1, hs1, hch⟩
  have HC := Lib.hid hc1
  have HS := Lib.hid hs1
  have CH := Lib.hid hch
  clear hc1 hs1 hch
  go_wp2_with fail
  go_ret2
  have h1 := blk_new (w1.alloc (.map #[] 0)) (.cells #[.pointer (some ⟨w.heap.size, 0, none⟩), .slice none 0 0, .map (some w1.heap.size)] 59)
  rw [show (w1.alloc (.map #[] 0)).heap.size = w1.heap.size + 1 by simp] at h1
  have hm := (MapAt.new Try.prog 9 w1)
  rw [HS.out] at h1 hm ⊢
  refine ⟨rfl, ⟨h1, ?_, ⟨_, hm.chgNo ((Chg.refl _).alloc _), fun s hs => by simp at hs, fun _ _ => rfl⟩, Row.nil _ _ _ _, by omega⟩, (CH.out.alloc _).alloc _⟩
  have hc := (((Chg.refl (M := NoM) w1).alloc (.map #[] 0)).alloc (.cells #[.pointer (some ⟨w.heap.size, 0, none⟩), .slice none 0 0, .map (some (w.heap.size + 1))] 59)).blkNo HC.out
  simpa [CtrAt] using hc
theorem new_no (from_ most : Int) (w : World) (h : most < 1 ∨ 1099511627776 < most ∨ from_ < 0 ∨ most < from_) :
    Calls Try.prog 8 #[.int .i64 from_, .int .i64 most] w fun e w' => e = .returned (.tuple #[.pointer none, .int .i64 1]) ∧ w = w' := by
  have H := Lib.hid (cnew_no from_ most w h)
  clear h
  go_enter Try.func8, Try.ntmps8
  go_wp2_with fail
  refine H.out.mono ?_
  rintro e w1 ⟨rfl, rfl⟩
  go_wp2_with fail
  go_ret2
  exact ⟨rfl, rfl⟩
theorem at_any (h : LogAt w base lb f own most nb mb v) : Calls Try.prog 14 #[.pointer (some ⟨lb, 0, none⟩)] w fun e w' => e = .returned (.int .i64 (f + own.length)) ∧ w = w' := by
  have H := Lib.hid (cat_any nb _ _ w h.ctr)
  have k0 := blk_cell h.box 0
  clear h
  go_enter Try.func14, Try.ntmps14
  go_wp2_with fail
  refine H.out.mono ?_
  rintro e w1 ⟨rfl, rfl⟩
  go_wp2_with fail
  go_ret
  exact ⟨rfl, rfl⟩
theorem room_any (h : LogAt w base lb f own most nb mb v) (h0 : 0 ≤ f) (h1 : f + own.length ≤ most) (h2 : most ≤ 1099511627776) : Calls Try.prog 17 #[.pointer (some ⟨lb, 0, none⟩)] w fun e w' => e = .returned (.int .i64 (most - (f + own.length))) ∧ Chg NoM w w' := by
  have H := Lib.hid (fun W hW => cat_any nb (f + own.length) most W hW)
  have H2 := Lib.hid (fun W hW => cmost_any nb (f + own.length) most W hW)
  have HC := Lib.hid h.ctr
  have HB := Lib.hid h.box
  obtain ⟨n, hn⟩ : ∃ n, n = f + own.length := ⟨_, rfl⟩
  rw [← hn] at H H2 HC h1 ⊢
  have n0 : 0 ≤ n := by omega
  clear h hn
  go_enter Try.func17, Try.ntmps17
  go_wp2_with fail
  refine wp_region_sig 9 (fun w' => Chg NoM w w') [.P [0, 1, 2, 5, 6, 7], .L [3, 8], .K 4, .N [9, 10, 11]] rfl (fun _ _ d _ _ h => by cases d <;> exact h) (fun _ h => h) (by kernel_rfl) ((Chg.refl _).drew) ?_
  apply sigP (Nat.le_refl _)
  · intro w'
    (simp only [wpPl, pickOps, List.filterMap_cons, List.filterMap_nil, List.getElem?_toArray, List.getElem?_cons_zero, List.getElem?_cons_succ]; iterate 6 (go_wp2; refine ⟨trivial, ?_⟩)); rfl
  apply sigL (by simp)
  · intro w' hS
    have y0 := blk_cell (hS.blkNo HB.out) 0
    (simp only [wpPl, pickOps, List.filterMap_cons, List.filterMap_nil, List.getElem?_toArray, List.getElem?_cons_zero, List.getElem?_cons_succ]; iterate 2 (go_wp2; refine ⟨trivial, ?_⟩)); rfl
  apply sigK
  simp only [pickOps, List.filterMap_cons, List.filterMap_nil, List.getElem?_toArray, List.getElem?_cons_zero, List.getElem?_cons_succ]
  go_wp2_with fail
  refine (H2.out w.drew HC.out).mono ?_
  rintro e w1 ⟨rfl, rfl⟩
  go_wp2_with fail
  refine ⟨(Chg.refl w).drew, ?_⟩
  apply sigN
  simp only [pickOps, List.filterMap_cons, List.filterMap_nil, List.getElem?_toArray, List.getElem?_cons_zero, List.getElem?_cons_succ]
  go_wp2_with fail
  refine (H.out w.drew HC.out).mono ?_
  rintro e w1 ⟨rfl, rfl⟩
  go_wp2_with fail
  apply sigEnd
  go_wp2_with fail
  go_ret
  exact ⟨rfl, (Chg.refl w).drew⟩
end Go.Proofs.Ytpfkgigfkonocaa
