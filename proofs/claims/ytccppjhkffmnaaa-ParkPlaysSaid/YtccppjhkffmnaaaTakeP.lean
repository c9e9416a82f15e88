/- Package park: Take (and apart, with its closure); the reference's Take. -/
import Derived.Test.YtccppjhkffmnaaaRefQ
import Derived.Test.YtccppjhkffmnaaaStoreB
namespace Go.Proofs.Ytccppjhkffmnaaa
set_option linter.unusedVariables false
set_option linter.unusedSimpArgs false
open Go.RowKit
/-- Is it of this room and this event? -/
def isE (r ev : ByteArray) (e : Edu) : Bool := decide (e.room = r) && decide (e.event = ev)
set_option maxHeartbeats 1000000 in
theorem closure_any (e : Edu) (r ev : ByteArray) (rb eb : Nat) (w : World) (hr : w.heap[rb]? = some (.cells #[.string r] 9 (0, 0))) (he : w.heap[eb]? = some (.cells #[.string ev] 9 (0, 0))) :
    Calls Try.prog 28 #[e.agg, .pointer (some ⟨rb, 0, none⟩), .pointer (some ⟨eb, 0, none⟩)] w fun en w' => en = .returned (.bool (isE r ev e)) ∧ Chg NoM w w' := by
  have lr := lt_of_blk hr
  have le := lt_of_blk he
  have nr : rb ≠ w.heap.size := by omega
  have ne : eb ≠ w.heap.size := by omega
  have c0 := blk_cell hr 0
  have c1 := blk_cell he 0
  unfold Edu.agg
  by_cases h1 : e.room = r
  · by_cases h2 : e.event = ev
    · have q1 := toList_eq h1
      have q2 := toList_eq h2
      have E : Hid (isE r ev e = true) := by show _ = _; simp [isE, h1, h2]
      clear h1 h2 hr he
      go_enter Try.func28, Try.ntmps28
      go_wp2_with fail
      go_ret
      exact ⟨by rw [E.out]; rfl, (Chg.refl w).alloc _⟩
    · have q1 := toList_eq h1
      have q2 := toList_ne h2
      have E : Hid (isE r ev e = false) := by show _ = _; simp [isE, h2]
      clear h1 h2 hr he
      go_enter Try.func28, Try.ntmps28
      go_wp2_with fail
      go_ret
      exact ⟨by rw [E.out]; rfl, (Chg.refl w).alloc _⟩
  · have q1 := toList_ne h1
    have E : Hid (isE r ev e = false) := by show _ = _; simp [isE, h1]
    clear h1 hr he
    go_enter Try.func28, Try.ntmps28
    go_wp2_with fail
    go_ret
    exact ⟨by rw [E.out]; rfl, (Chg.refl w).alloc _⟩
/-- Two rows of their own. -/
structure TwoR (w : World) (base : Nat) (va vb : Value) (a b : List Edu) : Prop where
  ra : ERow w base va a
  rb : ERow w base vb b
  sep : ∀ g, va.ownBlock = some g → vb.ownBlock ≠ some g
theorem TwoR.swap {w : World} {base : Nat} {va vb : Value} {a b : List Edu} (h : TwoR w base va vb a b) : TwoR w base vb va b a := ⟨h.rb, h.ra, fun g h1 h2 => h.sep g h2 h1⟩
theorem TwoR.chgNo {w w' : World} {base : Nat} {va vb : Value} {a b : List Edu} (h : TwoR w base va vb a b) (hc : Chg NoM w w') : TwoR w' base va vb a b := ⟨h.ra.chgNo hc, h.rb.chgNo hc, h.sep⟩
theorem TwoR.app {w w' : World} {base : Nat} {va vb va' : Value} {a b : List Edu} {e : Edu} {o : Obj} (h : TwoR w base va vb a b) (R : AppRes (w.alloc o) w' base 32 11 va va' a.length 1 (ecells a) (ecells [e])) :
    TwoR w' base va' vb (a ++ [e]) b ∧ (∀ W, Chg NoM W w → W.heap.size ≤ base → Chg NoM W w') := by
  have h1 := h.chgNo ((Chg.refl w).alloc o)
  refine ⟨⟨?_, Row.chg h1.rb R.chg (fun g c f hg _ hx => h.sep g hx.own hg), fun g hg hb => ?_⟩, fun W hW hB => (hW.alloc o).thenAll R.chg (fun i x hx => ?_)⟩
  · have := R.row
    rw [← ecells_append] at this
    unfold ERow
    rw [List.length_append, List.length_singleton]
    exact this
  · rcases R.own with e | e
    · rw [e] at hg; exact h.sep g hg hb
    · rw [e] at hg
      simp at hg
      have := Row.own_lt h.rb hb
      omega
  · have := Row.own_ge h.ra hx.own; omega
theorem ERow.slice {w : World} {base : Nat} {v : Value} {l : List Edu} (h : ERow w base v l) : ∃ A c, v = .slice A l.length c := by
  obtain ⟨A, c, rfl, _⟩ := Row.slice h
  exact ⟨A, c, rfl⟩
set_option maxHeartbeats 4000000 in
theorem apart_any (base c : Nat) (A : Option Addr) (l : List Edu) (r ev : ByteArray) (rb eb : Nat) (w : World) (hl : ERow w base (.slice A l.length c) l) (hn : l.length ≤ 1000) (hr : w.heap[rb]? = some (.cells #[.string r] 9 (0, 0))) (he : w.heap[eb]? = some (.cells #[.string ev] 9 (0, 0))) :
    Calls Try.prog 27 #[.slice A l.length c, .func (.func 28) #[] #[.pointer (some ⟨rb, 0, none⟩), .pointer (some ⟨eb, 0, none⟩)]] w fun en w' => ∃ va vb, en = .returned (.tuple #[va, vb]) ∧ TwoR w' w.heap.size va vb (l.filter (isE r ev)) (l.filter (fun e => !isE r ev e)) ∧ Chg NoM w w' := by
  have HL := Lib.hid hl
  have HR := Lib.hid hr
  have HE := Lib.hid he
  clear hl hr he
  go_enter Try.func27, Try.ntmps27
  go_wp2_with fail
  go_loopw [6, 7, 12] (fun va vb i wr => ∃ (k : Nat) (a b : List Edu) (Va Vb : Option Addr) (ca cb : Nat), k ≤ l.length ∧ i = .int .i64 k ∧ va = .slice Va a.length ca ∧ vb = .slice Vb b.length cb ∧ Hid (TwoR wr w.heap.size (.slice Va a.length ca) (.slice Vb b.length cb) a b) ∧ Hid (a = (l.take k).filter (isE r ev)) ∧ Hid (b = (l.take k).filter (fun e => !isE r ev e)) ∧ a.length ≤ 1000 ∧ b.length ≤ 1000 ∧ Hid (Chg NoM w wr)) (fun _ _ i _ => l.length - (intOf i).toNat)
  case atStart => exact ⟨0, [], [], none, none, 0, 0, by omega, rfl, rfl, rfl, ⟨Row.nil _ _ _ _, Row.nil _ _ _ _, fun g h => by simp [Value.ownBlock] at h⟩, rfl, rfl, by simp, by simp, Chg.refl w⟩
  case round =>
    obtain ⟨k, a, b, Va, Vb, ca, cb, hk, rfl, rfl, rfl, T, PA, PB, la, lb, C⟩ := hrel
    by_cases hlt : k < l.length
    · obtain ⟨p, hp⟩ : ∃ p, l[k]? = some p := ⟨_, List.getElem?_eq_getElem hlt⟩
      obtain ⟨g, rfl, _, _, hc⟩ := (HL.out.chgNo C.out).at hp
      have htk : l.take (k + 1) = l.take k ++ [p] := by
        rw [List.take_succ_eq_append_getElem hlt, (List.getElem?_eq_some_iff.1 hp).2]
      have HTK := Lib.hid htk
      have lA : ((l.take k).filter (isE r ev)).length ≤ k := by have := List.length_filter_le (isE r ev) (l.take k); rw [List.length_take] at this; omega
      have lB : ((l.take k).filter (fun e => !isE r ev e)).length ≤ k := by have := List.length_filter_le (fun e => !isE r ev e) (l.take k); rw [List.length_take] at this; omega
      rw [← PA.out] at lA
      rw [← PB.out] at lB
      have x_0 := hc 0 (by omega)
      have x_1 := hc 1 (by omega)
      have x_2 := hc 2 (by omega)
      have x_3 := hc 3 (by omega)
      have x_4 := hc 4 (by omega)
      have x_5 := hc 5 (by omega)
      have x_6 := hc 6 (by omega)
      have x_7 := hc 7 (by omega)
      have x_8 := hc 8 (by omega)
      have x_9 := hc 9 (by omega)
      have x_10 := hc 10 (by omega)
      simp only [Edu.cells, List.getElem?_cons_zero, List.getElem?_cons_succ, List.getElem?_toArray, Nat.add_zero] at x_0 x_1 x_2 x_3 x_4 x_5 x_6 x_7 x_8 x_9 x_10
      have i0 : (0 : Int) ≤ (k : Int) := by omega
      have i1 : (k : Int) < (l.length : Int) := by omega
      clear hc hp htk
      go_wp2_with fail
      refine (closure_any p r ev rb eb _ (((C.out.alloc _)).blkNo HR.out) (((C.out.alloc _)).blkNo HE.out)).mono ?_
      rintro en w3 ⟨rfl, hc3⟩
      have D3 := Lib.hid (((Chg.refl wr).alloc (.cells p.arr 32)).trans hc3)
      have C3 := Lib.hid (C.out.trans D3.out)
      have T3 := Lib.hid (T.out.chgNo D3.out)
      have B3 := Lib.hid (hc3.blkNo (blk_new wr (.cells p.arr 32)))
      have hb : ∀ j, j < 11 → w3.cell? ⟨wr.heap.size, j, none⟩ = p.arr[j]? := fun j _ => blk_cell B3.out j
      clear hc3 x_0 x_1 x_2 x_3 x_4 x_5 x_6 x_7 x_8 x_9 x_10
      have y_0 := hb 0 (by omega)
      have y_1 := hb 1 (by omega)
      have y_2 := hb 2 (by omega)
      have y_3 := hb 3 (by omega)
      have y_4 := hb 4 (by omega)
      have y_5 := hb 5 (by omega)
      have y_6 := hb 6 (by omega)
      have y_7 := hb 7 (by omega)
      have y_8 := hb 8 (by omega)
      have y_9 := hb 9 (by omega)
      have y_10 := hb 10 (by omega)
      simp only [Edu.cells, List.getElem?_cons_zero, List.getElem?_cons_succ, List.getElem?_toArray, Nat.add_zero] at y_0 y_1 y_2 y_3 y_4 y_5 y_6 y_7 y_8 y_9 y_10
      clear hb
      by_cases hm : isE r ev p = true
      · rw [hm]
        have NA : Hid (a ++ [p] = (l.take (k + 1)).filter (isE r ev)) := by show _ = _; rw [HTK.out, List.filter_append, ← PA.out]; simp [hm]
        have NB : Hid (b = (l.take (k + 1)).filter (fun e => !isE r ev e)) := by show _ = _; rw [HTK.out, List.filter_append, ← PB.out]; simp [hm]
        clear hm
        go_wp2_with (refine wpList_append_Row _ rfl (.tmp 19) (.tmp 21) 30 rfl w.heap.size 32 _ 11 112 Try.underlying30 Try.info32 rfl (by omega) (.slice Va a.length ca) a.length (ecells a) rfl ?c0 (some ⟨w3.heap.size, 0, none⟩) 1 1 (ecells [p]) rfl rfl ?c1 ?c2 ?c3 ?c4 ?c5 ?_)
        case c0 => exact (T3.out.ra.chgNo ((Chg.refl (M := NoM) w3).alloc _))
        case c1 =>
          first
            | exact fun _ => ⟨_, rfl, news_blk (blk_new w3 _)⟩
            | (intro x u hu; exact hu)
        case c2 => exact ecells_cell _
        case c3 => omega
        case c4 => omega
        case c5 => exact (C3.out.alloc _).size
        intro v4 w4 R
        obtain ⟨hT4, hC4⟩ := TwoR.app T3.out R
        have C4 := Lib.hid (hC4 w C3.out (Nat.le_refl _))
        have T4 := Lib.hid hT4
        clear R hT4 hC4
        obtain ⟨A4, c4, rfl⟩ := T4.out.ra.slice
        go_wp2_with fail
        exact ⟨⟨k + 1, a ++ [p], b, A4, Vb, c4, cb, by omega, by go_num, rfl, rfl, T4, NA, NB, by simp; omega, by omega, C4⟩, by simp [intOf]; omega⟩
      · have hm' : isE r ev p = false := by simpa using hm
        rw [hm']
        have NA : Hid (a = (l.take (k + 1)).filter (isE r ev)) := by show _ = _; rw [HTK.out, List.filter_append, ← PA.out]; simp [hm']
        have NB : Hid (b ++ [p] = (l.take (k + 1)).filter (fun e => !isE r ev e)) := by show _ = _; rw [HTK.out, List.filter_append, ← PB.out]; simp [hm']
        clear hm hm'
        go_wp2_with (refine wpList_append_Row _ rfl (.tmp 23) (.tmp 25) 30 rfl w.heap.size 32 _ 11 112 Try.underlying30 Try.info32 rfl (by omega) (.slice Vb b.length cb) b.length (ecells b) rfl ?c0 (some ⟨w3.heap.size, 0, none⟩) 1 1 (ecells [p]) rfl rfl ?c1 ?c2 ?c3 ?c4 ?c5 ?_)
        case c0 => exact (T3.out.swap.ra.chgNo ((Chg.refl (M := NoM) w3).alloc _))
        case c1 =>
          first
            | exact fun _ => ⟨_, rfl, news_blk (blk_new w3 _)⟩
            | (intro x u hu; exact hu)
        case c2 => exact ecells_cell _
        case c3 => omega
        case c4 => omega
        case c5 => exact (C3.out.alloc _).size
        intro v4 w4 R
        obtain ⟨hT4, hC4⟩ := TwoR.app T3.out.swap R
        have C4 := Lib.hid (hC4 w C3.out (Nat.le_refl _))
        have T4 := Lib.hid hT4
        clear R hT4 hC4
        obtain ⟨A4, c4, rfl⟩ := T4.out.ra.slice
        go_wp2_with fail
        exact ⟨⟨k + 1, a, b ++ [p], Va, A4, ca, c4, by omega, by go_num, rfl, rfl, T4.out.swap, NA, NB, by omega, by simp; omega, C4⟩, by simp [intOf]; omega⟩
    · obtain rfl : k = l.length := by omega
      have EA : Hid (a = l.filter (isE r ev)) := by show _ = _; rw [PA.out, List.take_length]
      have EB : Hid (b = l.filter (fun e => !isE r ev e)) := by show _ = _; rw [PB.out, List.take_length]
      go_wp2_with fail
      go_ret2
      rw [← EA.out, ← EB.out]
      exact ⟨_, _, rfl, T.out, C.out⟩
set_option maxHeartbeats 2000000 in
theorem take_any (base pb : Nat) (most lost : Int) (l : List Edu) (v : Value) (r ev : ByteArray) (w : World) (hp : ParkAt w base pb most l lost v) (hm : l.length ≤ 1000) :
    Calls Try.prog 19 #[.pointer (some ⟨pb, 0, none⟩), .string r, .string ev] w fun en w' => ∃ va vb, en = .returned va ∧ ERow w' w.heap.size va (l.filter (isE r ev)) ∧ ParkAt w' base pb most (l.filter (fun e => !isE r ev e)) lost vb ∧ OwnG w v vb ∧ Chg (ParkX pb v) w w' := by
  obtain ⟨Av, cv, hv, hcv, hcv2⟩ := Row.slice hp.2.2
  have hlw := lt_of_blk hp.2.1
  have nb0 : pb ≠ w.heap.size := by omega
  have nb1 : pb ≠ w.heap.size + 1 := by omega
  have k1 : w.cell? ⟨pb, 1, none⟩ = some (.slice Av l.length cv) := by rw [← hv]; exact blk_cell hp.2.1 1
  have hrow : ERow w base (.slice Av l.length cv) l := by rw [← hv]; exact hp.2.2
  have HP := Lib.hid hp
  have HRow := Lib.hid hrow
  have HV := Lib.hid hv
  clear hp hrow hv
  have cW : Chg NoM w ((w.alloc (.cells #[.string r] 9)).alloc (.cells #[.string ev] 9)) := ((Chg.refl w).alloc _).alloc _
  have b0 : ((w.alloc (.cells #[.string r] 9)).alloc (.cells #[.string ev] 9)).heap[w.heap.size]? = some (.cells #[.string r] 9 (0, 0)) := blk_alloc (blk_new w _) _
  have b1 : ((w.alloc (.cells #[.string r] 9)).alloc (.cells #[.string ev] 9)).heap[w.heap.size + 1]? = some (.cells #[.string ev] 9 (0, 0)) := by
    have h := blk_new (w.alloc (.cells #[.string r] 9)) (.cells #[.string ev] 9)
    rwa [show (w.alloc (.cells #[.string r] 9)).heap.size = w.heap.size + 1 by simp] at h
  have AP := Lib.hid (apart_any base cv Av l r ev w.heap.size (w.heap.size + 1) _ (HRow.out.chgNo cW) hm b0 b1)
  have CW := Lib.hid cW
  have SW : Hid (w.heap.size ≤ ((w.alloc (.cells #[.string r] 9)).alloc (.cells #[.string ev] 9)).heap.size) := cW.size
  clear cW b0 b1
  go_enter Try.func19, Try.ntmps19
  go_wp2_with fail
  refine AP.out.mono ?_
  rintro en w3 ⟨va, vb, rfl, hT3, hc3⟩
  have C3 := Lib.hid (CW.out.trans hc3)
  have T3 := Lib.hid hT3
  have B3 := Lib.hid (C3.out.blkNo HP.out.2.1)
  obtain ⟨A3, c3, rfl⟩ := hT3.rb.slice
  clear hT3 hc3 k1 AP
  go_wp2_with (refine wpList_store_box rfl 30 (.tmp 21) (.tmp 19) rfl pb 1 rfl A3 (l.filter (fun e => !isE r ev e)).length c3 rfl 52 _ B3.out (by kernel_rfl) (by simp) ?_)
  intro w4 hb4 hc4 hs4
  have R4a := Lib.hid (show ERow w4 w.heap.size va (l.filter (isE r ev)) from Row.chg (T3.out.ra.base SW.out) hc4 (fun g c f _ _ => BoxM.ne (by decide)))
  have P4 : Hid (ParkAt w4 base pb most (l.filter (fun e => !isE r ev e)) lost (.slice A3 (l.filter (fun e => !isE r ev e)).length c3)) :=
    ⟨HP.out.1, hb4, Row.chg (T3.out.rb.base (Nat.le_trans (Nat.le_trans HP.out.1 (Nat.le_of_lt hlw)) SW.out)) hc4 (fun g c f _ _ => BoxM.ne (by decide))⟩
  have O4 : Hid (OwnG w v (.slice A3 (l.filter (fun e => !isE r ev e)).length c3)) := fun g hg => .inr (Nat.le_trans SW.out (Row.own_ge T3.out.rb hg))
  have C4 : Hid (Chg (ParkX pb v) w w4) := C3.out.ofNo.trans (hc4.mono (fun k o _ h => .inl h))
  clear hb4 hc4 hs4
  go_wp2_with fail
  go_ret
  exact ⟨va, _, rfl, R4a.out, P4.out, O4.out, C4.out⟩
set_option maxHeartbeats 4000000 in
theorem rtake_any (A : Option Addr) (c : Nat) (most lost : Int) (l : List Edu) (r ev : ByteArray) (w : World) (hl : EO w A l) (hn : l.length ≤ 1000) :
    Calls Try.prog 18 #[.agg #[.int .i64 most, .slice A l.length c, .int .i64 lost], .string r, .string ev] w fun en w' => ∃ A' c' va, en = .returned (.tuple #[.agg #[.int .i64 most, .slice A' (l.filter (fun e => !isE r ev e)).length c', .int .i64 lost], va]) ∧ EO w' A' (l.filter (fun e => !isE r ev e)) ∧ FarO w w' A A' ∧ ERow w' w.heap.size va (l.filter (isE r ev)) ∧ Chg NoM w w' := by
  have HL := Lib.hid hl
  clear hl
  go_enter Try.func18, Try.ntmps18
  go_wp2_with fail
  have cW : Chg NoM w ((w.alloc (.cells #[.int .i64 most, .slice A l.length c, .int .i64 lost] 41)).alloc (.cells #[.int .i64 0, .slice none 0 0, .int .i64 0] 41)) := ((Chg.refl w).alloc _).alloc _
  have b0 : ((w.alloc (.cells #[.int .i64 most, .slice A l.length c, .int .i64 lost] 41)).alloc (.cells #[.int .i64 0, .slice none 0 0, .int .i64 0] 41)).heap[w.heap.size]? = some (.cells #[.int .i64 most, .slice A l.length c, .int .i64 lost] 41 (0, 0)) := blk_alloc (blk_new w _) _
  have b1 : ((w.alloc (.cells #[.int .i64 most, .slice A l.length c, .int .i64 lost] 41)).alloc (.cells #[.int .i64 0, .slice none 0 0, .int .i64 0] 41)).heap[w.heap.size + 1]? = some (.cells #[.int .i64 0, .slice none 0 0, .int .i64 0] 41 (0, 0)) := by
    have h := blk_new (w.alloc (.cells #[.int .i64 most, .slice A l.length c, .int .i64 lost] 41)) (.cells #[.int .i64 0, .slice none 0 0, .int .i64 0] 41)
    rwa [show (w.alloc (.cells #[.int .i64 most, .slice A l.length c, .int .i64 lost] 41)).heap.size = w.heap.size + 1 by simp] at h
  have CW := Lib.hid cW
  have B0 := Lib.hid b0
  have B1 := Lib.hid b1
  clear cW b0 b1
  go_loopw [8, 9, 10] (fun va vb i wr => ∃ (k : Nat) (a b : List Edu) (Va Vb : Option Addr) (ca cb : Nat), k ≤ l.length ∧ i = .int .i64 k ∧ va = .slice Va a.length ca ∧ vb = .slice Vb b.length cb ∧ Hid (TwoR wr w.heap.size (.slice Va a.length ca) (.slice Vb b.length cb) a b) ∧ Hid (a = (l.take k).filter (isE r ev)) ∧ Hid (b = (l.take k).filter (fun e => !isE r ev e)) ∧ a.length ≤ 1000 ∧ b.length ≤ 1000 ∧ Hid (wr.heap[w.heap.size]? = some (.cells #[.int .i64 most, .slice A l.length c, .int .i64 lost] 41 (0, 0))) ∧ Hid (wr.heap[w.heap.size + 1]? = some (.cells #[.int .i64 0, .slice none 0 0, .int .i64 0] 41 (0, 0))) ∧ Hid (Chg NoM w wr)) (fun _ _ i _ => l.length - (intOf i).toNat)
  case atStart => exact ⟨0, [], [], none, none, 0, 0, by omega, rfl, rfl, rfl, ⟨Row.nil _ _ _ _, Row.nil _ _ _ _, fun g h => by simp [Value.ownBlock] at h⟩, rfl, rfl, by simp, by simp, B0, B1, CW⟩
  case round =>
    obtain ⟨k, a, b, Va, Vb, ca, cb, hk, rfl, rfl, rfl, T, PA, PB, la, lb, BX, BQ, C⟩ := hrel
    have z1 := blk_cell BX.out 1
    have hlw := lt_of_blk BX.out
    have nbw : w.heap.size ≠ wr.heap.size := by omega
    by_cases hlt : k < l.length
    · obtain ⟨p, hp⟩ : ∃ p, l[k]? = some p := ⟨_, List.getElem?_eq_getElem hlt⟩
      obtain ⟨g, off, rfl, hc⟩ := (HL.out.chgNo C.out).at k p hp
      have htk : l.take (k + 1) = l.take k ++ [p] := by
        rw [List.take_succ_eq_append_getElem hlt, (List.getElem?_eq_some_iff.1 hp).2]
      have HTK := Lib.hid htk
      have lA : ((l.take k).filter (isE r ev)).length ≤ k := by have := List.length_filter_le (isE r ev) (l.take k); rw [List.length_take] at this; omega
      have lB : ((l.take k).filter (fun e => !isE r ev e)).length ≤ k := by have := List.length_filter_le (fun e => !isE r ev e) (l.take k); rw [List.length_take] at this; omega
      rw [← PA.out] at lA
      rw [← PB.out] at lB
      have x_0 := hc 0 (by omega)
      have x_1 := hc 1 (by omega)
      have x_2 := hc 2 (by omega)
      have x_3 := hc 3 (by omega)
      have x_4 := hc 4 (by omega)
      have x_5 := hc 5 (by omega)
      have x_6 := hc 6 (by omega)
      have x_7 := hc 7 (by omega)
      have x_8 := hc 8 (by omega)
      have x_9 := hc 9 (by omega)
      have x_10 := hc 10 (by omega)
      simp only [Edu.cells, List.getElem?_cons_zero, List.getElem?_cons_succ, List.getElem?_toArray, Nat.add_zero] at x_0 x_1 x_2 x_3 x_4 x_5 x_6 x_7 x_8 x_9 x_10
      have i0 : (0 : Int) ≤ (k : Int) := by omega
      have i1 : (k : Int) < (l.length : Int) := by omega
      clear hc hp htk
      by_cases h1 : p.room = r
      · have q1 := toList_eq h1
        by_cases h2 : p.event = ev
        · have q2 := toList_eq h2
          have hm : isE r ev p = true := by simp [isE, h1, h2]
          have NA : Hid (a ++ [p] = (l.take (k + 1)).filter (isE r ev)) := by show _ = _; rw [HTK.out, List.filter_append, ← PA.out]; simp [hm]
          have NB : Hid (b = (l.take (k + 1)).filter (fun e => !isE r ev e)) := by show _ = _; rw [HTK.out, List.filter_append, ← PB.out]; simp [hm]
          clear hm h1 h2
          go_wp2_with (refine wpList_append_Row _ rfl (.tmp 36) (.tmp 42) 30 rfl w.heap.size 32 _ 11 112 Try.underlying30 Try.info32 rfl (by omega) (.slice Va a.length ca) a.length (ecells a) rfl ?c0 (some ⟨wr.heap.size, 0, none⟩) 1 1 (ecells [p]) rfl rfl ?c1 ?c2 ?c3 ?c4 ?c5 ?_)
          case c0 => exact (T.out.ra.chgNo ((Chg.refl (M := NoM) wr).alloc _))
          case c1 =>
            first
              | exact fun _ => ⟨_, rfl, news_blk (blk_new wr _)⟩
              | (intro x u hu; exact hu)
          case c2 => exact ecells_cell _
          case c3 => omega
          case c4 => omega
          case c5 => exact (C.out.alloc _).size
          intro v4 w4 R
          obtain ⟨hT4, hC4⟩ := TwoR.app T.out R
          have C4 := Lib.hid (hC4 w C.out (Nat.le_refl _))
          have T4 := Lib.hid hT4
          have SZ4 : Hid (wr.heap.size ≤ w4.heap.size) := by have := R.chg.size; simp at this; show _ ≤ _; omega
          have B4 := Lib.hid (R.chg.block _ _ (blk_alloc BX.out _) (RowM.ne (by decide)))
          have BQ4 := Lib.hid (R.chg.block _ _ (blk_alloc BQ.out _) (RowM.ne (by decide)))
          clear R hT4 hC4
          obtain ⟨A4, c4, rfl⟩ := T4.out.ra.slice
          go_wp2_with fail
          exact ⟨⟨k + 1, a ++ [p], b, A4, Vb, c4, cb, by omega, by go_num, rfl, rfl, T4, NA, NB, by simp; omega, by omega, B4, BQ4, C4⟩, by simp [intOf]; omega⟩
        · have q2 := toList_ne h2
          have hm' : isE r ev p = false := by simp [isE, h2]
          have NA : Hid (a = (l.take (k + 1)).filter (isE r ev)) := by show _ = _; rw [HTK.out, List.filter_append, ← PA.out]; simp [hm']
          have NB : Hid (b ++ [p] = (l.take (k + 1)).filter (fun e => !isE r ev e)) := by show _ = _; rw [HTK.out, List.filter_append, ← PB.out]; simp [hm']
          clear hm' h1 h2
          go_wp2_with (refine wpList_append_Row _ rfl (.tmp 44) (.tmp 50) 30 rfl w.heap.size 32 _ 11 112 Try.underlying30 Try.info32 rfl (by omega) (.slice Vb b.length cb) b.length (ecells b) rfl ?c0 (some ⟨wr.heap.size, 0, none⟩) 1 1 (ecells [p]) rfl rfl ?c1 ?c2 ?c3 ?c4 ?c5 ?_)
          case c0 => exact (T.out.swap.ra.chgNo ((Chg.refl (M := NoM) wr).alloc _))
          case c1 =>
            first
              | exact fun _ => ⟨_, rfl, news_blk (blk_new wr _)⟩
              | (intro x u hu; exact hu)
          case c2 => exact ecells_cell _
          case c3 => omega
          case c4 => omega
          case c5 => exact (C.out.alloc _).size
          intro v4 w4 R
          obtain ⟨hT4, hC4⟩ := TwoR.app T.out.swap R
          have C4 := Lib.hid (hC4 w C.out (Nat.le_refl _))
          have T4 := Lib.hid hT4
          have SZ4 : Hid (wr.heap.size ≤ w4.heap.size) := by have := R.chg.size; simp at this; show _ ≤ _; omega
          have B4 := Lib.hid (R.chg.block _ _ (blk_alloc BX.out _) (RowM.ne (by decide)))
          have BQ4 := Lib.hid (R.chg.block _ _ (blk_alloc BQ.out _) (RowM.ne (by decide)))
          clear R hT4 hC4
          obtain ⟨A4, c4, rfl⟩ := T4.out.ra.slice
          go_wp2_with fail
          exact ⟨⟨k + 1, a, b ++ [p], Va, A4, ca, c4, by omega, by go_num, rfl, rfl, T4.out.swap, NA, NB, by omega, by simp; omega, B4, BQ4, C4⟩, by simp [intOf]; omega⟩
      · have q1 := toList_ne h1
        have hm' : isE r ev p = false := by simp [isE, h1]
        have NA : Hid (a = (l.take (k + 1)).filter (isE r ev)) := by show _ = _; rw [HTK.out, List.filter_append, ← PA.out]; simp [hm']
        have NB : Hid (b ++ [p] = (l.take (k + 1)).filter (fun e => !isE r ev e)) := by show _ = _; rw [HTK.out, List.filter_append, ← PB.out]; simp [hm']
        clear hm' h1
        go_wp2_with (refine wpList_append_Row _ rfl (.tmp 44) (.tmp 50) 30 rfl w.heap.size 32 _ 11 112 Try.underlying30 Try.info32 rfl (by omega) (.slice Vb b.length cb) b.length (ecells b) rfl ?c0 (some ⟨wr.heap.size, 0, none⟩) 1 1 (ecells [p]) rfl rfl ?c1 ?c2 ?c3 ?c4 ?c5 ?_)
        case c0 => exact (T.out.swap.ra.chgNo ((Chg.refl (M := NoM) wr).alloc _))
        case c1 =>
          first
            | exact fun _ => ⟨_, rfl, news_blk (blk_new wr _)⟩
            | (intro x u hu; exact hu)
        case c2 => exact ecells_cell _
        case c3 => omega
        case c4 => omega
        case c5 => exact (C.out.alloc _).size
        intro v4 w4 R
        obtain ⟨hT4, hC4⟩ := TwoR.app T.out.swap R
        have C4 := Lib.hid (hC4 w C.out (Nat.le_refl _))
        have T4 := Lib.hid hT4
        have SZ4 : Hid (wr.heap.size ≤ w4.heap.size) := by have := R.chg.size; simp at this; show _ ≤ _; omega
        have B4 := Lib.hid (R.chg.block _ _ (blk_alloc BX.out _) (RowM.ne (by decide)))
        have BQ4 := Lib.hid (R.chg.block _ _ (blk_alloc BQ.out _) (RowM.ne (by decide)))
        clear R hT4 hC4
        obtain ⟨A4, c4, rfl⟩ := T4.out.ra.slice
        go_wp2_with fail
        exact ⟨⟨k + 1, a, b ++ [p], Va, A4, ca, c4, by omega, by go_num, rfl, rfl, T4.out.swap, NA, NB, by omega, by simp; omega, B4, BQ4, C4⟩, by simp [intOf]; omega⟩
    · obtain rfl : k = l.length := by omega
      have EA : Hid (a = l.filter (isE r ev)) := by show _ = _; rw [PA.out, List.take_length]
      have EB : Hid (b = l.filter (fun e => !isE r ev e)) := by show _ = _; rw [PB.out, List.take_length]
      have z0 := blk_cell BX.out 0
      have z2 := blk_cell BX.out 2
      go_wp2_with (refine wpList_store_row rfl 41 (.tmp 6) (.tmp 57) rfl (w.heap.size + 1) rfl #[.int .i64 most, .slice Vb b.length cb, .int .i64 lost] rfl 41 _ BQ.out (by kernel_rfl) rfl (by simp [Value.oneCell']) ?_)
      intro w5 hb5 hc5 hs5
      have R5 : Hid (TwoR w5 w.heap.size (.slice Va a.length ca) (.slice Vb b.length cb) a b) := ⟨Row.chg T.out.ra hc5 (fun _ _ _ _ _ => BoxM.ne (by decide)), Row.chg T.out.rb hc5 (fun _ _ _ _ _ => BoxM.ne (by decide)), T.out.sep⟩
      have C5 : Hid (Chg NoM w w5) := C.out.thenAll hc5 (fun i o h => by rw [h.1]; omega)
      have u0 := blk_cell hb5 0
      have u1 := blk_cell hb5 1
      have u2 := blk_cell hb5 2
      clear hb5 hc5 hs5
      go_wp2_with fail
      rw [← EA.out, ← EB.out]
      refine bodyPost_ret (v := .tuple #[.agg #[.int .i64 most, .slice Vb b.length cb, .int .i64 lost], .slice Va a.length ca]) (by simp [results, Try.results18, go_sem, u0, u1, u2]) rfl ⟨Vb, cb, _, rfl, EO.of R5.out.rb, fun g off x hA => ?_, R5.out.ra, C5.out⟩
      subst hA
      exact .inr ⟨Row.own_ge R5.out.rb rfl, Row.own_lt R5.out.rb rfl⟩
end Go.Proofs.Ytccppjhkffmnaaa
