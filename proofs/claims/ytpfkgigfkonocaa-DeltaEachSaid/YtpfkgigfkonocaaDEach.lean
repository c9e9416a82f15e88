/- Package delta: Each, told to the closure of DeltaEach. -/
import Derived.Test.YtpfkgigfkonocaaDFill
namespace Go.Proofs.Ytpfkgigfkonocaa
set_option linter.unusedVariables false
set_option linter.unusedSimpArgs false
open Go.RowKit

/-- What telling may change: what was got, whether it was right, and rows that are new. -/
def EachM (gb rb E : Nat) : Nat → Obj → Prop := fun i o => (i = gb ∧ ∃ c f, o = .cells c 22 f) ∨ (i = rb ∧ ∃ c f, o = .cells c 4 f) ∨ (E ≤ i ∧ ∃ c f, o = .cells c 9 f)
theorem EachM.ne {gb rb E k : Nat} {c : Array Value} {t : TypeId} {fr : Nat × Nat} (h1 : t ≠ 22) (h2 : t ≠ 4) (h3 : t ≠ 9) : ¬ EachM gb rb E k (.cells c t fr) := by
  rintro (⟨_, c', f', h⟩ | ⟨_, c', f', h⟩ | ⟨_, c', f', h⟩)
  · injection h with _ h; exact h1 h
  · injection h with _ h; exact h2 h
  · injection h with _ h; exact h3 h
theorem EachM.nine {gb rb E k : Nat} {c : Array Value} {fr : Nat × Nat} (h : EachM gb rb E k (.cells c 9 fr)) : E ≤ k := by
  rcases h with ⟨_, c', f', h⟩ | ⟨_, c', f', h⟩ | ⟨h, _⟩
  · injection h with _ h; cases h
  · injection h with _ h; cases h
  · exact h
theorem EachM.two {gb rb E k : Nat} {c : Array Value} {fr : Nat × Nat} (h : EachM gb rb E k (.cells c 22 fr)) : k = gb := by
  rcases h with ⟨h, _⟩ | ⟨_, c', f', h⟩ | ⟨_, c', f', h⟩
  · exact h
  · injection h with _ h; cases h
  · injection h with _ h; cases h
set_option maxHeartbeats 2000000 in
theorem tell_any (E B gb rb ob kb : Nat) (G U : Option Addr) (cg cu : Nat) (gl own : List ByteArray) (s : ByteArray) (k : Int) (w : World) (hg : w.heap[gb]? = some (.cells #[.slice G gl.length cg] 22 (0, 0))) (hG : Row w E 9 1 (.slice G gl.length cg) gl.length (scells gl)) (hr : w.heap[rb]? = some (.cells #[.bool true] 4 (0, 0)))
    (ho : w.heap[ob]? = some (.cells #[.slice U own.length cu] 22 (0, 0))) (hU : Row w B 9 1 (.slice U own.length cu) own.length (scells own)) (hk : w.heap[kb]? = some (.cells #[.int .i64 k] 3 (0, 0))) (hgo : ob ≠ gb) (hE : E ≤ w.heap.size) (hn : gl.length ≤ 1000) (hn2 : own.length ≤ 1000) (hUE : ∀ g, (Value.slice U own.length cu).ownBlock = some g → g < E) :
    Calls Try.prog 23 #[.string s, .int .i64 (posOf 0 own s), .pointer (some ⟨gb, 0, none⟩), .pointer (some ⟨rb, 0, none⟩), .pointer (some ⟨ob, 0, none⟩), .pointer (some ⟨kb, 0, none⟩)] w fun e w' =>
      e = .returned (.bool (decide ((gl.length : Int) + 1 < k))) ∧ ∃ G' cg', w'.heap[gb]? = some (.cells #[.slice G' (gl.length + 1) cg'] 22 (0, 0)) ∧ Row w' E 9 1 (.slice G' (gl.length + 1) cg') (gl.length + 1) (scells (gl ++ [s])) ∧ w'.heap[rb]? = some (.cells #[.bool true] 4 (0, 0)) ∧ Chg (EachM gb rb E) w w' := by
  have HG := Lib.hid hg
  have HRow := Lib.hid hG
  have HR := Lib.hid hr
  have HO := Lib.hid ho
  have HU := Lib.hid hU
  have HK := Lib.hid hk
  have HUE := Lib.hid hUE
  have g0 := blk_cell hg 0
  have lg := lt_of_blk hg
  have lr := lt_of_blk hr
  have lo := lt_of_blk ho
  have lk := lt_of_blk hk
  have n1 : gb ≠ w.heap.size := by omega
  have n2 : gb ≠ rb := blk_ne hg hr (by decide)
  clear hg hG hr ho hU hk hUE
  go_enter Try.func23, Try.ntmps23
  go_wp2_with (refine wpList_append_Row _ rfl (.tmp 9) (.tmp 11) 22 rfl E 9 _ 1 16 Try.underlying22 Try.info9 rfl (by omega) (.slice G gl.length cg) gl.length (scells gl) rfl ?c0 (some ⟨w.heap.size, 0, none⟩) 1 1 (scells [s]) rfl rfl ?c1 ?c2 ?c3 ?c4 ?c5 ?_)
  case c0 => exact Row.chg HRow.out ((Chg.refl (M := NoM) w).alloc _) (fun _ _ _ _ _ h => h)
  case c1 =>
    first
      | exact fun _ => ⟨_, rfl, news_blk (cs := [Value.string s]) (blk_new w (.cells #[.string s] 9))⟩
      | (intro x u hu; exact hu)
  case c2 => exact scells_one _
  case c3 => omega
  case c4 => omega
  case c5 => first | omega | (simp; omega)
  intro v3 w3 R
  have hr3 := R.row
  rw [← scells_append] at hr3
  obtain ⟨A3, c3, rfl, hc3a, hc3b⟩ := hr3.slice
  have b3 := R.chg.block _ _ (blk_alloc HG.out _) (RowM.ne (by decide))
  have RR := Lib.hid R
  have B3 := Lib.hid b3
  have R3 := Lib.hid hr3
  clear R b3 hr3 g0
  go_wp2_with (refine wpList_store_box rfl 22 (.tmp 2) (.tmp 12) rfl gb 0 rfl A3 (gl.length + 1) c3 rfl 22 _ B3.out (by kernel_rfl) (by simp) ?_)
  intro w4 b4 c4 s4
  have C3 : Hid (Chg (EachM gb rb E) w w3) := ((Chg.refl w).alloc _).then RR.out.chg (fun i o _ h => .inr (.inr ⟨Row.own_ge HRow.out h.own, h.2⟩))
  have HR4 := Lib.hid (c4.block _ _ (RR.out.chg.block _ _ (blk_alloc HR.out _) (RowM.ne (by decide))) (BoxM.ne (by decide)))
  have HO4 := Lib.hid (c4.block _ _ (RR.out.chg.block _ _ (blk_alloc HO.out _) (RowM.ne (by decide))) (fun h => hgo h.1))
  have HK4 := Lib.hid (c4.block _ _ (RR.out.chg.block _ _ (blk_alloc HK.out _) (RowM.ne (by decide))) (BoxM.ne (by decide)))
  have HU4 := Lib.hid (Row.chg (Row.chg (Row.chg HU.out ((Chg.refl (M := NoM) w).alloc (.cells #[.string s] 9)) (fun _ _ _ _ _ h => h)) RR.out.chg (fun g c f hg _ h => by have := HUE.out g hg; have := Row.own_ge HRow.out h.own; omega)) c4 (fun g c f _ _ => BoxM.ne (by decide)))
  have R4 := Lib.hid (Row.chg R3.out c4 (fun g c f _ _ => BoxM.ne (by decide)))
  have C4 : Hid (Chg (EachM gb rb E) w w4) := C3.out.trans (c4.mono (fun i o _ h => .inl h))
  have B4 : Hid (w4.heap[gb]? = some (.cells #[.slice A3 (gl.length + 1) c3] 22 (0, 0))) := b4
  have RP := Lib.hid (rpos_any U cu 0 own s w4 (SO.ofRow HU4.out) (by omega) (by omega) hn2)
  obtain ⟨q, hq⟩ : ∃ q, q = posOf 0 own s := ⟨_, rfl⟩
  rw [← hq] at RP ⊢
  have y0 := blk_cell B4.out 0
  have y1 := blk_cell HR4.out 0
  have y2 := blk_free HR4.out 0
  have y3 := blk_cell HO4.out 0
  have y4 := blk_cell HK4.out 0
  have n3 : kb ≠ rb := blk_ne HK.out HR.out (by decide)
  clear b4 c4 s4 hq
  go_wp2_with fail
  refine RP.out.mono ?_
  rintro e w' ⟨rfl, rfl⟩
  go_wp2_with fail
  go_ret
  have C5 : Chg (EachM gb rb E) w (w4.setCell ⟨rb, 0, none⟩ (.bool true)) := C4.out.setCell (p := ⟨rb, 0, none⟩) (fun o ho => by
    have ho : w.heap[rb]? = some o := ho
    rw [HR.out] at ho
    cases ho
    exact .inr (.inl ⟨rfl, _, _, rfl⟩)) _
  refine ⟨rfl, A3, c3, blk_set_ne B4.out n2 _, ?_, blk_set HR4.out 0 _, C5⟩
  exact Row.chg R4.out (Chg.store w4 ⟨rb, 0, none⟩ (.bool true)) (fun g c f hg _ h => Row.own_ne R4.out HR4.out (by decide) (by rw [hg]; exact congrArg some h))
theorem wpList_store_row {P : Program} {ops : Array Oper} {rest : List Oper} {o : Oper} {a : Act} {w : World} {Q : Exit → Act → World → Prop} (hgd : o.guard = none) (ty : TypeId) (x v : Operand) (ho : o.op = .store ty x v)
    (g : Nat) (hx : a.eval x = .pointer (some ⟨g, 0, none⟩)) (cs : Array Value) (hv : a.eval v = .agg cs) (t : TypeId) (old : Array Value) (hg : w.heap[g]? = some (.cells old t (0, 0))) (hi : (P.info? ty).map (·.size) = some cs.size) (hs : old.size = cs.size) (h1 : cs.all (·.oneCell') = true)
    (hK : ∀ w', w'.heap[g]? = some (.cells cs t (0, 0)) → Chg (BoxM g t) w w' → w'.heap.size = w.heap.size → wpList P ops Q rest (a.put o.dst undef) w') : wpList P ops Q (o :: rest) a w := by
  refine wpList_plain hgd fun K' hK' => ?_
  have hrun := run_storeVar_row (P := P) w g t ty old cs hg hi hs h1
  unfold Oper.wp
  simp [execOp, ho, hx, hv, Instr.storeAt, Instr.sureAddr, hrun, Result.andThen]
  exact hK' _ _ (hK _ (setRow_heap w g old cs t (0, 0) hg) ((Chg.refl w).setRow (fun o ho => ⟨rfl, by rw [hg] at ho; cases ho; exact ⟨_, _, rfl⟩⟩) _) (by simp))
theorem Try.info3 : (Try.prog.info? 3).map (fun i => (i.zero, i.size, i.bytes)) = some (some (.int .i64 0), 1, 8) := by kernel_rfl
theorem since_mem {f n : Int} {own : List ByteArray} {s : ByteArray} (h : s ∈ sinceL f own n) : s ∈ own := by
  unfold sinceL at h
  obtain ⟨q, hq, rfl⟩ := List.mem_map.1 h
  exact (keys_mem f own q.1).1 (List.mem_map.2 ⟨q, (List.mem_filter.1 hq).1, rfl⟩)
set_option maxHeartbeats 4000000 in
theorem each_any (base lb nb mb B gb rb ob kb kk : Nat) (most n : Int) (U : Option Addr) (cu : Nat) (own : List ByteArray) (v : Value) (w : World) (h : LogAt w base lb 0 own most nb mb v) (hs : ∀ s ∈ own, s.size ≤ 2) (hn : own.length ≤ 100)
    (hg : w.heap[gb]? = some (.cells #[.slice none 0 0] 22 (0, 0))) (hr : w.heap[rb]? = some (.cells #[.bool true] 4 (0, 0)))
    (ho : w.heap[ob]? = some (.cells #[.slice U own.length cu] 22 (0, 0))) (hU : Row w B 9 1 (.slice U own.length cu) own.length (scells own)) (hk : w.heap[kb]? = some (.cells #[.int .i64 kk] 3 (0, 0))) (hgo : ob ≠ gb) (hk1 : 1 ≤ kk) (hk2 : kk ≤ 100) :
    Calls Try.prog 22 #[.pointer (some ⟨lb, 0, none⟩), .int .i64 n, .func (.func 23) #[] #[.pointer (some ⟨gb, 0, none⟩), .pointer (some ⟨rb, 0, none⟩), .pointer (some ⟨ob, 0, none⟩), .pointer (some ⟨kb, 0, none⟩)]] w fun e w' =>
      e = .returned (.tuple #[]) ∧ ∃ G' cg', w'.heap[gb]? = some (.cells #[.slice G' ((sinceL 0 own n).take kk).length cg'] 22 (0, 0)) ∧ Row w' w.heap.size 9 1 (.slice G' ((sinceL 0 own n).take kk).length cg') ((sinceL 0 own n).take kk).length (scells ((sinceL 0 own n).take kk)) ∧ w'.heap[rb]? = some (.cells #[.bool true] 4 (0, 0)) ∧ Chg (EachM gb rb w.heap.size) w w' := by
  have HL := Lib.hid h
  have HS := Lib.hid hs
  have HG := Lib.hid hg
  have HR := Lib.hid hr
  have HO := Lib.hid ho
  have HU := Lib.hid hU
  have HK := Lib.hid hk
  have HGO := Lib.hid hgo
  have lr0 := lt_of_blk h.box
  clear h hs hg hr ho hU hk hgo
  go_enter Try.func22, Try.ntmps22
  go_wp2_with (refine wpList_store_row rfl 63 (.tmp 6) (.tmp 14) rfl w.heap.size rfl #[.func (.func 23) #[] #[.pointer (some ⟨gb, 0, none⟩), .pointer (some ⟨rb, 0, none⟩), .pointer (some ⟨ob, 0, none⟩), .pointer (some ⟨kb, 0, none⟩)]] rfl 63 #[.nilFunc] (blk_new w _) (by kernel_rfl) rfl (by simp [Value.oneCell']) ?_)
  intro w1 hb1 hc1 hs1
  have C1 : Hid (Chg NoM w w1) := ((Chg.refl w).alloc _).thenAll hc1 (fun i o h => by rw [h.1]; exact Nat.le_refl _)
  have TB1 := Lib.hid hb1
  clear hb1 hc1 hs1
  go_wp2_with fail
  refine (since_any n w1 (HL.out.chgNo C1.out) (fun s h => by have := HS.out s h; omega) (by omega)).mono ?_
  rintro e w2 ⟨g0, rfl, hg0, hb0, hc2⟩
  have KP : Hid (∀ s ∈ sinceL 0 own n, s ∈ own) := fun s h => since_mem h
  have kl := since_len 0 own n
  obtain ⟨ks, hks⟩ : ∃ ks, ks = sinceL 0 own n := ⟨_, rfl⟩
  rw [← hks] at hb0 KP kl ⊢
  have HKS := Lib.hid hks
  have C2 := Lib.hid (C1.out.trans hc2)
  have TB := Lib.hid (hc2.blkNo TB1.out)
  have KB := Lib.hid hb0
  have G0 : Hid (w.heap.size < g0) := Nat.lt_of_lt_of_le (lt_of_blk TB1.out) hg0
  have S2 : Hid (w.heap.size < w2.heap.size) := lt_of_blk TB.out
  have hmk := fun W => run_make_row' (P := Try.prog) 39 3 (.int .i64 0) 8 Try.underlying39 Try.info3 rfl .i64 .i64 ks.length (by omega) (by omega) W
  simp only [madeCells_one] at hmk
  have m1 : (ks.length : Int) ≤ 100 := by omega
  clear hc2 hb0 hg0 hks
  have NB := Lib.hid (blk_new w2 (.cells (Array.replicate ks.length (Value.int .i64 0)) 3))
  go_wp2_with fail
  go_loopw [23] (fun i wr => ∃ j : Nat, j ≤ ks.length ∧ i = .int .i64 j ∧ Hid (∃ cur : Array Value, wr.heap[w2.heap.size]? = some (.cells cur 3 (0, 0)) ∧ cur.size = ks.length ∧ ∀ (t : Nat) (s : ByteArray), t < j → ks[t]? = some s → cur[t]? = some (Value.int .i64 (posOf 0 own s))) ∧ Hid (Chg NoM w2 wr)) (fun i _ => ks.length - (intOf i).toNat)
  case atStart => exact ⟨0, by omega, rfl, ⟨_, NB.out, by simp, fun t s h => by omega⟩, (Chg.refl w2).alloc _⟩
  case round =>
    obtain ⟨j, hj, rfl, HC, D⟩ := hrel
    by_cases hjl : j < ks.length
    · obtain ⟨s, hs⟩ : ∃ s, ks[j]? = some s := ⟨_, List.getElem?_eq_getElem hjl⟩
      obtain ⟨cur, hcur, hcs, hct⟩ := HC.out
      have hmem := KP.out s (List.mem_of_getElem? hs)
      have LD := Lib.hid (HL.out.chgNo (C2.out.trans D.out))
      obtain ⟨fm, hm1, hm2⟩ := LD.out.map
      have hlk : (Instr.lookup 57 (.map (some mb)) (.string s) false).run Try.prog wr = .ok (.int .i64 (posOf 0 own s)) wr := by
        rw [hm1.look keyed9 Try.underlying57 zero3 (key_s (by have := HS.out s hmem; omega)) false, hm2.1 s hmem]; rfl
      have HLK := Lib.hid hlk
      have y0 : wr.cell? ⟨g0, j, none⟩ = some (.string s) := by rw [blk_cell (D.out.blkNo KB.out)]; simpa using scells_get ks j s hs
      have y1 := blk_cell LD.out.box 2
      obtain ⟨cv, y2⟩ : ∃ cv, wr.cell? ⟨w2.heap.size, j, none⟩ = some cv := ⟨_, by rw [blk_cell hcur, Array.getElem?_eq_getElem (by omega)]⟩
      have y3 : wr.frozen? ⟨w2.heap.size, j, none⟩ = false := blk_free hcur j
      have i0 : (0 : Int) ≤ (j : Int) := by omega
      have i1 : (j : Int) < (ks.length : Int) := by omega
      have HCUR := Lib.hid hcur
      have HCT := Lib.hid hct
      have HCS := Lib.hid hcs
      have HSJ := Lib.hid hs
      clear hs hcur hct hcs hmem hm1 hm2 hlk
      go_wp2_with (refine wpList_look_run rfl (.tmp 33) (.tmp 34) 57 false rfl HLK.out ?_)
      refine ⟨⟨j + 1, by omega, by go_num, ⟨_, blk_set HCUR.out j _, by simp; exact HCS.out, fun t x ht hx => ?_⟩, D.out.setNew (Nat.le_refl _)⟩, by simp [intOf]; omega⟩
      have hsz := HCS.out
      rw [Array.getElem?_setIfInBounds]
      by_cases e : j = t
      · subst e
        rw [HSJ.out] at hx
        cases hx
        rw [if_pos rfl, if_pos (by omega)]
      · rw [if_neg e]
        exact HCT.out t x (by omega) hx
    · obtain ⟨wz, hwz⟩ : ∃ wz : World, wz = wr := ⟨_, rfl⟩
      rw [← hwz] at HC D ⊢
      clear hwz
      obtain ⟨cur, hcur, hcs, hct⟩ := HC.out
      have HCUR := Lib.hid hcur
      have HCT := Lib.hid hct
      have CZ := Lib.hid (C2.out.trans D.out)
      obtain rfl : j = ks.length := by omega
      have EZ : Hid (w.heap.size ≤ wz.heap.size) := CZ.out.size
      clear hcur hct hcs HC
      go_wp2_with fail
      go_loopw [40] (fun i wr => ∃ (t : Nat) (gl : List ByteArray) (G : Option Addr) (cg : Nat), t ≤ ks.length ∧ t < kk ∧ i = .int .i64 t ∧ Hid (gl = ks.take t) ∧ Hid (wr.heap[gb]? = some (.cells #[.slice G gl.length cg] 22 (0, 0))) ∧ Hid (Row wr wz.heap.size 9 1 (.slice G gl.length cg) gl.length (scells gl)) ∧ Hid (wr.heap[rb]? = some (.cells #[.bool true] 4 (0, 0))) ∧ Hid (Chg (EachM gb rb wz.heap.size) wz wr)) (fun i _ => ks.length - (intOf i).toNat)
      case atStart => exact ⟨0, [], none, 0, by omega, by omega, rfl, rfl, CZ.out.blkNo HG.out, Row.nil _ _ _ _, CZ.out.blkNo HR.out, Chg.refl wz⟩
      case round =>
        obtain ⟨t, gl, G, cg, ht, htk, rfl, GL, BG, RG, BR, F⟩ := hrel
        have hgl : Hid (gl.length = t) := by show _ = _; rw [GL.out, List.length_take]; omega
        by_cases htl : t < ks.length
        · obtain ⟨s, hs⟩ : ∃ s, ks[t]? = some s := ⟨_, List.getElem?_eq_getElem htl⟩
          have NT : Hid (gl ++ [s] = ks.take (t + 1)) := by show _ = _; rw [GL.out, List.take_succ_eq_append_getElem htl, (List.getElem?_eq_some_iff.1 hs).2]
          have lg0 : g0 < wz.heap.size := lt_of_blk (D.out.blkNo KB.out)
          have Y0 : Hid (wr.cell? ⟨g0, t, none⟩ = some (.string s)) := by
            show _ = _
            rw [blk_cell (F.out.block _ _ (D.out.blkNo KB.out) (fun h => by have := h.nine; omega))]; simpa using scells_get ks t s hs
          have Y1 : Hid (wr.cell? ⟨w2.heap.size, t, none⟩ = some (.int .i64 (posOf 0 own s))) := by
            show _ = _
            rw [blk_cell (F.out.block _ _ HCUR.out (EachM.ne (by decide) (by decide) (by decide)))]
            exact HCT.out t s (by omega) hs
          have Y2 := Lib.hid (blk_cell (F.out.block _ _ (D.out.blkNo TB.out) (EachM.ne (by decide) (by decide) (by decide))) 0)
          have TL := Lib.hid (tell_any wz.heap.size B gb rb ob kb G U cg cu gl own s kk wr.drew BG.out (Row.chg RG.out ((Chg.refl (M := NoM) wr).drew) (fun _ _ _ _ _ h => h)) BR.out (F.out.block _ _ (CZ.out.blkNo HO.out) (fun h => HGO.out h.two))
            (Row.chg (Row.chg (Row.chg HU.out CZ.out (fun _ _ _ _ _ h => h)) F.out (fun g c f hg _ h => by have := Row.own_lt HU.out hg; have := EZ.out; have := h.nine; omega)) ((Chg.refl (M := NoM) wr).drew) (fun _ _ _ _ _ h => h))
            (F.out.block _ _ (CZ.out.blkNo HK.out) (EachM.ne (by decide) (by decide) (by decide))) HGO.out F.out.size (by have := hgl.out; omega) (by omega) (fun g hg => by have := Row.own_lt HU.out hg; have := EZ.out; omega))
          have i0 : (0 : Int) ≤ (t : Int) := by omega
          have i1 : (t : Int) < (ks.length : Int) := by omega
          obtain ⟨q, hq⟩ : ∃ q, q = posOf 0 own s := ⟨_, rfl⟩
          rw [← hq] at TL Y1
          have y0 := Y0.out
          clear hs hq
          go_wp2_with fail
          clear y0
          refine wp_region_sig 7 (fun w' => Chg NoM wr w') [.L [0, 1, 2, 3, 4, 5, 6], .N [7, 8]] rfl (fun _ _ d _ _ h => by cases d <;> exact h) (fun _ h => h) (by kernel_rfl) ((Chg.refl _).drew) ?_
          apply sigL (Nat.le_refl _)
          · intro w' hS
            have z0 := hS.cellNo Y0.out
            have z1 := hS.cellNo Y1.out
            have z2 := hS.cellNo Y2.out
            (simp only [wpPl, pickOps, List.filterMap_cons, List.filterMap_nil, List.getElem?_toArray, List.getElem?_cons_zero, List.getElem?_cons_succ]; iterate 7 (go_wp2; refine ⟨trivial, ?_⟩)); rfl
          apply sigN
          simp only [pickOps, List.filterMap_cons, List.filterMap_nil, List.getElem?_toArray, List.getElem?_cons_zero, List.getElem?_cons_succ]
          by_cases hmore : (gl.length : Int) + 1 < kk
          · rw [decide_eq_true hmore] at TL
            have hmt := hgl.out
            have htk2 : t + 1 < kk := by omega
            clear hmore hmt
            go_wp2_with fail
            refine TL.out.mono ?_
            rintro e w5 ⟨rfl, G', cg', hg5, hr5, hb5, hc5⟩
            have F5 : Hid (Chg (EachM gb rb wz.heap.size) wz w5) := F.out.trans (Chg.ofDrew hc5)
            have BG5 := Lib.hid hg5
            have RG5 := Lib.hid hr5
            have BR5 := Lib.hid hb5
            clear hg5 hr5 hb5 hc5 TL
            go_wp2_with fail
            apply sigEnd
            go_wp2_with fail
            exact ⟨⟨t + 1, gl ++ [s], G', cg', by omega, by omega, by go_num, NT, by rw [List.length_append, List.length_singleton]; exact BG5, by rw [List.length_append, List.length_singleton]; exact RG5, BR5, F5⟩, by simp [intOf]; omega⟩
          · rw [decide_eq_false hmore] at TL
            have hmt := hgl.out
            have hkt : Hid (kk = t + 1) := by show _ = _; omega
            clear hmore hmt
            go_wp2_with fail
            refine TL.out.mono ?_
            rintro e w5 ⟨rfl, G', cg', hg5, hr5, hb5, hc5⟩
            have F5 : Hid (Chg (EachM gb rb w.heap.size) w w5) := CZ.out.ofNo.trans ((F.out.trans (Chg.ofDrew hc5)).mono (fun i o _ h => h.imp id (fun h => h.imp id (fun h => ⟨Nat.le_trans EZ.out h.1, h.2⟩))))
            have BG5 := Lib.hid hg5
            have RG5 := Lib.hid hr5
            have BR5 := Lib.hid hb5
            clear hg5 hr5 hb5 hc5 TL
            go_wp2_with fail
            apply sigEnd
            go_wp2_with fail
            have hL : (ks.take kk) = gl ++ [s] := by rw [hkt.out, ← NT.out]
            refine bodyPost_ret (v := .tuple #[]) (by simp [results, Try.results22, go_sem]) rfl ⟨rfl, G', cg', ?_, ?_, BR5.out, F5.out⟩
            · rw [← HKS.out, hL, List.length_append, List.length_singleton]; exact BG5.out
            · rw [← HKS.out, hL, List.length_append, List.length_singleton]; exact Row.base RG5.out EZ.out
        · have hL : Hid (ks.take kk = gl) := by show _ = _; rw [GL.out, List.take_of_length_le (by omega), List.take_of_length_le (by omega)]
          have F5 : Hid (Chg (EachM gb rb w.heap.size) w wr) := CZ.out.ofNo.trans (F.out.mono (fun i o _ h => h.imp id (fun h => h.imp id (fun h => ⟨Nat.le_trans EZ.out h.1, h.2⟩))))
          go_wp2_with fail
          refine bodyPost_end (v := .tuple #[]) (by simp [results, Try.results22, go_sem]) rfl ⟨rfl, G, cg, ?_, ?_, BR.out, F5.out⟩
          · rw [← HKS.out, hL.out]; exact BG.out
          · rw [← HKS.out, hL.out]; exact Row.base RG.out EZ.out
end Go.Proofs.Ytpfkgigfkonocaa
