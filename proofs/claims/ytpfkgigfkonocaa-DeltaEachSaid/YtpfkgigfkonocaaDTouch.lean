/- Contract of package delta: Touch. -/
import Derived.Test.YtpfkgigfkonocaaDLog
import Derived.Test.YtpfkgigfkonocaaStoreB
namespace Go.Proofs.Ytpfkgigfkonocaa
set_option linter.unusedVariables false
set_option linter.unusedSimpArgs false
open Go.RowKit
variable {w w' : World} {base lb nb mb : Nat} {f most : Int} {own : List ByteArray} {v : Value}

theorem LogM.ne {lb nb mb k : Nat} {v : Value} {c : Array Value} {t : TypeId} {fr : Nat × Nat} (h1 : t ≠ 9) (h2 : t ≠ 59) (h3 : t ≠ 70) : ¬ LogM lb nb mb v k (.cells c t fr) := by
  rintro (⟨_, c', f', h⟩ | ⟨_, c', f', h⟩ | ⟨_, _, _, h⟩ | h)
  · injection h with _ h; exact h2 h
  · injection h with _ h; exact h3 h
  · cases h
  · exact RowM.ne h1 h
set_option maxHeartbeats 4000000 in
theorem touch_ok (s : ByteArray) (w : World) (h : LogAt w base lb f own most nb mb v) (hs : s.size ≤ 1000) (h0 : 0 ≤ f) (h1 : f + own.length < most) (h2 : most ≤ 1099511627776) (hn : own.length ≤ 1000) :
    Calls Try.prog 10 #[.pointer (some ⟨lb, 0, none⟩), .string s] w fun e w' => e = .returned (.tuple #[.int .i64 (f + own.length + 1), .int .i64 0]) ∧ ∃ v', LogAt w' base lb f (own ++ [s]) most nb mb v' ∧ OwnG w v v' ∧ Chg (LogM lb nb mb v) w w' := by
  have NX := Lib.hid (cnext_any nb (f + own.length) most w h.ctr (by omega) (by omega) h2)
  have eE : addE 1 (f + own.length) most = 0 := by unfold addE; rw [if_neg (by omega), if_neg (by omega)]
  have eN : addN 1 (f + own.length) most = f + own.length + 1 := by unfold addN; rw [if_neg (by omega), Int.min_eq_left (by omega)]
  have eR : addR 1 (f + own.length) most = f + own.length + 1 := by unfold addR; rw [eE, if_pos rfl, eN]
  rw [eE, eN, eR] at NX
  have k0 := blk_cell h.box 0
  have HL := Lib.hid h
  have LO := Lib.hid h.lo
  clear h eE eN eR
  go_enter Try.func10, Try.ntmps10
  go_wp2_with fail
  refine NX.out.mono ?_
  rintro e w1 ⟨rfl, hc1, hg1, hs1⟩
  have b1 := hg1.block _ _ HL.out.box (BoxM.ne (by decide))
  have m1 : ∃ fm, MapAt Try.prog 9 w1 mb fm ∧ Fm f own fm := HL.out.map.imp fun _ hm => ⟨hm.1.chg hg1 (fun es c => by rintro ⟨_, _, _, h⟩; cases h), hm.2⟩
  have r1 : Row w1 base 9 1 v (keysOf f own).length (scells (keysOf f own)) := Row.chg HL.out.row hg1 (fun g c f _ _ => BoxM.ne (by decide))
  have B1 := Lib.hid b1
  have CT1 := Lib.hid hc1
  have M1 := Lib.hid m1
  have R1 := Lib.hid r1
  have G1 : Hid (Chg (LogM lb nb mb v) w w1) := hg1.mono (fun k o _ h => .inr (.inl h))
  have kl : (keysOf f own).length ≤ own.length := keys_len f own
  obtain ⟨fm1, hm1, hm2⟩ := m1
  obtain ⟨A, c, hv, hac, hcm⟩ := Row.slice r1
  have r2 := r1
  rw [hv] at r2
  have q1 : w1.cell? ⟨lb, 1, none⟩ = some (.slice A (keysOf f own).length c) := by rw [← hv]; exact blk_cell b1 1
  have q2 := blk_cell b1 2
  by_cases hmem : s ∈ own
  · have hlk : (Instr.lookup 57 (.map (some mb)) (.string s) true).run Try.prog w1 = .ok (.tuple #[.int .i64 (posOf f own s), .bool true]) w1 := by
      rw [hm1.look keyed9 Try.underlying57 zero3 (key_s hs) true, hm2.1 s hmem]; rfl
    have HLK := Lib.hid hlk
    obtain ⟨k, hk⟩ := List.mem_iff_getElem?.1 ((keys_mem f own s).2 hmem)
    have hkl := (List.getElem?_eq_some_iff.1 hk).1
    have IX := Lib.hid (index_at A c (keysOf f own) s k w1 (SO.ofRow r2) (by omega) hk (first_nodup (keys_nodup f own) hk))
    obtain ⟨g, cap, he, _⟩ := Row.cells r2 (by omega)
    cases he
    obtain ⟨hsa, hbg, -⟩ := SAt.of r2
    obtain ⟨n, hn1⟩ : ∃ n, (keysOf f own).length = n + 1 := ⟨(keysOf f own).length - 1, by omega⟩
    have DL := Lib.hid (delete_at g c n k (keysOf f own) w1 hsa hn1 (by omega) (by omega))
    have HF := Lib.hid (cut_filter (keys_nodup f own) hk)
    have HN := Lib.hid hn1
    rw [hn1] at IX q1
    have kb0 : (0 : Int) ≤ (k : Int) := by omega
    have kb : (k : Int) ≤ 1000 := by omega
    have kn : k ≤ n := by omega
    have HV := Lib.hid hv
    clear hmem hm1 hm2 hlk hk hsa hn1 b1 r1 r2 hc1 hg1 hs1 hkl kl hac hv
    go_wp2_with (refine wpList_look_run rfl (.tmp 26) (.tmp 27) 57 true rfl HLK.out ?_)
    refine IX.out.mono ?_
    rintro e w' ⟨rfl, rfl⟩
    go_wp2_with fail
    refine DL.out.mono ?_
    rintro e w2 ⟨rfl, hsa2, hc2⟩
    have b2 := hc2.block _ _ B1.out (fun h => by obtain ⟨_, _, _, h⟩ := h; cases h)
    have hl2 : ((keysOf f own).take k ++ (keysOf f own).drop (k + 1)).length = n := by rw [List.length_append, List.length_take, List.length_drop, HN.out]; omega
    have ctm2 := hc2.block _ _ CT1.out (fun h => by obtain ⟨_, _, _, h⟩ := h; cases h)
    have mpm2 : ∃ fm, MapAt Try.prog 9 w2 mb fm ∧ Fm f own fm := M1.out.imp fun _ hm => ⟨hm.1.chg hc2 (fun es c => by rintro ⟨_, _, _, h⟩; cases h), hm.2⟩
    have g2 : Hid (Chg (LogM lb nb mb v) w w2) := G1.out.trans (hc2.mono (fun k o _ h => .inr (.inr (.inr ⟨by rw [HV.out]; exact congrArg some h.1.symm, h.2⟩))))
    have HB2 := Lib.hid b2
    have HC2 := Lib.hid ctm2
    have HM2' := Lib.hid mpm2
    have HS2 := Lib.hid hsa2
    have HL2 := Lib.hid hl2
    clear hc2 ctm2 mpm2 hsa2 hl2 b2
    go_wp2_with (refine wpList_store_box rfl 22 (.tmp 48) (.tmp 46) rfl lb 1 rfl (some ⟨g, 0, none⟩) n c rfl 59 _ HB2.out (by kernel_rfl) (by simp) ?_)
    intro wm bxm cm' sm
    obtain ⟨F, hF0⟩ : ∃ F, F = (keysOf f own).take k ++ (keysOf f own).drop (k + 1) := ⟨_, rfl⟩
    have hF : (keysOf f own).filter (fun x => decide (x ≠ s)) = F := by rw [hF0]; exact HF.out.symm
    rw [← hF0] at HS2 HL2
    have hFl := HL2.out
    subst hFl
    obtain ⟨Am, hAm⟩ : ∃ Am : Option Addr, Am = some ⟨g, 0, none⟩ := ⟨_, rfl⟩
    obtain ⟨cm, hcm'⟩ : ∃ cm, cm = c := ⟨_, rfl⟩
    have ctm : CtrAt wm nb (f + own.length + 1) most := cm'.block _ _ HC2.out (BoxM.ne (by decide))
    have mpm : ∃ fm, MapAt Try.prog 9 wm mb fm ∧ Fm f own fm := HM2'.out.imp fun _ hm => ⟨hm.1.chg cm' (fun es c => by rintro ⟨_, _, _, h⟩; cases h), hm.2⟩
    have rwm : Row wm base 9 1 (.slice Am F.length cm) F.length (scells F) := by rw [hAm, hcm']; exact Row.chg (HS2.out.row hbg) cm' (fun g c f _ _ => BoxM.ne (by decide))
    have owm : ∀ g', (Value.slice Am F.length cm).ownBlock = some g' → v.ownBlock = some g' := by rw [hAm, HV.out]; exact fun _ h => h
    have cgm : Chg (LogM lb nb mb v) w wm := g2.out.trans (cm'.mono (fun k o _ h => .inl h))
    have hFn : F.length ≤ 1000 := by have := HN.out; have := keys_len f own; omega
    rw [← hAm, ← hcm'] at bxm ⊢
    clear cm' sm hF0 hAm hcm'
    have BXm := Lib.hid bxm
    have CTm := Lib.hid ctm
    have MPm := Lib.hid mpm
    have RWm := Lib.hid rwm
    have OWm := Lib.hid owm
    have CGm := Lib.hid cgm
    have k1 := blk_cell bxm 1
    have f1 := blk_free bxm 1
    have lm := lt_of_blk bxm
    have nlm : lb ≠ wm.heap.size := by omega
    have blo : base ≤ wm.heap.size := by have := LO.out.1; omega
    clear bxm ctm mpm rwm owm cgm
    go_wp2_with (first
      | (refine wpList_look_run rfl (.tmp 26) (.tmp 27) 57 true rfl HLK.out ?_)
      | (refine wpList_append_Row _ rfl (.tmp 53) (.tmp 55) 22 rfl base 9 _ 1 16 Try.underlying22 Try.info9 rfl (by omega) (.slice Am F.length cm) F.length (scells F) rfl ?c0 (some ⟨wm.heap.size, 0, none⟩) 1 1 (scells [s]) rfl rfl ?c1 ?c2 ?c3 ?c4 ?c5 ?_))
    case c0 => exact Row.chg RWm.out ((Chg.refl (M := NoM) wm).alloc _) (fun _ _ _ _ _ h => h)
    case c1 =>
      first
        | exact fun _ => ⟨_, rfl, news_blk (cs := [Value.string s]) (blk_new wm (.cells #[.string s] 9))⟩
        | (intro x u hu; exact hu)
    case c2 => exact scells_one _
    case c3 => omega
    case c4 => omega
    case c5 => first | omega | (simp; omega)
    intro v3 w3 R
    have hr3 := R.row
    rw [← scells_append] at hr3
    obtain ⟨A3, c3, rfl, hc3a, hc3b⟩ := hr3.slice
    have b3 := R.chg.block _ _ (blk_alloc BXm.out _) (RowM.ne (by decide))
    have RR := Lib.hid R
    have B3 := Lib.hid b3
    have R3 := Lib.hid hr3
    clear R b3 hr3 k1 f1
    go_wp2_with (refine wpList_store_box rfl 22 (.tmp 58) (.tmp 56) rfl lb 1 rfl A3 (F.length + 1) c3 rfl 59 _ B3.out (by kernel_rfl) (by simp) ?_)
    intro w4 b4 c4 s4
    have B4 : Hid (w4.heap[lb]? = some (.cells #[.pointer (some ⟨nb, 0, none⟩), .slice A3 (F.length + 1) c3, .map (some mb)] 59 (0, 0))) := b4
    have C4 := Lib.hid c4
    have R4 : Hid (Row w4 base 9 1 (.slice A3 (F.length + 1) c3) (F.length + 1) (scells (F ++ [s]))) := Row.chg R3.out c4 (fun g c f _ _ => BoxM.ne (by decide))
    obtain ⟨fm, hm1, hm2⟩ := MPm.out
    have M4 : Hid (MapAt Try.prog 9 w4 mb fm) := ((hm1.chgNo ((Chg.refl wm).alloc (.cells #[.string s] 9))).chg RR.out.chg (fun es c => by rintro ⟨_, _, _, h⟩; cases h)).chg c4 (fun es c => by rintro ⟨_, _, _, h⟩; cases h)
    have T4 : Hid (CtrAt w4 nb (f + own.length + 1) most) := c4.block _ _ (RR.out.chg.block _ _ (blk_alloc CTm.out _) (RowM.ne (by decide))) (BoxM.ne (by decide))
    have k2 := blk_cell b4 2
    have HM2 := Lib.hid hm2
    clear b4 c4 s4 hm1 hm2
    go_wp2_with (refine wpList_put_f (f := fm) (key := .string s) (val := .int .i64 (f + own.length + 1)) rfl (.tmp 62) (.tmp 63) (.tmp 64) 57 rfl M4.out keyed9 Try.underlying57 rfl rfl rfl (key_s hs) ?_)
    intro w5 hm5 hc5 hs5
    have nlb : lb ≠ mb := M4.out.ne B4.out
    have nnb : nb ≠ mb := M4.out.ne T4.out
    have B5 := hc5.block _ _ B4.out (fun h => nlb h.1)
    have T5 := hc5.block _ _ T4.out (fun h => nnb h.1)
    have R5 := Row.chg R4.out hc5 (fun g c f _ _ => by rintro ⟨_, _, _, h⟩; cases h)
    have HM5 := Lib.hid (And.intro hm5 (HM2.out.snoc s))
    have OW3 : Hid (OwnG w v (.slice A3 (F.length + 1) c3)) := by
      intro g hg
      rcases RR.out.own with h | h
      · rw [h] at hg; exact .inl (OWm.out g hg)
      · rw [h] at hg
        simp at hg
        have := CGm.out.size
        exact .inr (by omega)
    have L5 : Hid (LogAt w5 base lb f (own ++ [s]) most nb mb (.slice A3 (F.length + 1) c3)) := by
      have hk : keysOf f (own ++ [s]) = F ++ [s] := by rw [keys_snoc, hF]
      refine ⟨B5, ?_, ⟨_, HM5.out⟩, ?_, LO.out⟩
      · have : f + ((own ++ [s]).length : Int) = f + own.length + 1 := by simp; omega
        rw [this]; exact T5
      · rw [hk, List.length_append, List.length_singleton]; exact R5
    have C5 : Hid (Chg (LogM lb nb mb v) w w5) := by
      refine (((CGm.out.trans ((Chg.refl wm).alloc _)).then RR.out.chg (fun i o hi h => ?_)).trans (C4.out.mono (fun k o _ h => .inl h))).trans (hc5.mono (fun k o _ h => .inr (.inr (.inl h))))
      exact .inr (.inr (.inr ⟨OWm.out i h.1, h.2⟩))
    clear hm5 hc5 hs5 B5 T5 R5
    go_wp2_with fail
    go_ret2
    exact ⟨rfl, _, L5.out, OW3.out, C5.out⟩
  · have hlk : (Instr.lookup 57 (.map (some mb)) (.string s) true).run Try.prog w1 = .ok (.tuple #[.int .i64 0, .bool false]) w1 := by
      rw [hm1.look keyed9 Try.underlying57 zero3 (key_s hs) true, hm2.2 s hmem]; rfl
    have HLK := Lib.hid hlk
    have hk0 : s ∉ keysOf f own := fun h => hmem ((keys_mem f own s).1 h)
    obtain ⟨F, hF0⟩ : ∃ F, F = keysOf f own := ⟨_, rfl⟩
    have hF : (keysOf f own).filter (fun x => decide (x ≠ s)) = F := by rw [hF0]; exact filter_none hk0
    obtain ⟨Am, hAm⟩ : ∃ Am, Am = A := ⟨_, rfl⟩
    obtain ⟨cm, hcm'⟩ : ∃ cm, cm = c := ⟨_, rfl⟩
    obtain ⟨wm, hwm⟩ : ∃ wm : World, wm = w1 := ⟨_, rfl⟩
    rw [← hwm] at B1 CT1 M1 R1 G1 HLK q2 ⊢
    have bxm : wm.heap[lb]? = some (.cells #[.pointer (some ⟨nb, 0, none⟩), .slice Am F.length cm, .map (some mb)] 59 (0, 0)) := by rw [hF0, hAm, hcm', ← hv]; exact B1.out
    have ctm := CT1.out
    have mpm := M1.out
    have rwm : Row wm base 9 1 (.slice Am F.length cm) F.length (scells F) := by rw [hF0, hAm, hcm', ← hv]; exact R1.out
    have hFn : F.length ≤ 1000 := by rw [hF0]; omega
    have owm : ∀ g', (Value.slice Am F.length cm).ownBlock = some g' → v.ownBlock = some g' := by rw [hAm, hcm', hF0, hv]; exact fun _ h => h
    have cgm := G1.out
    clear hmem hm1 hm2 hlk hk0 hF0 b1 r1 r2 hc1 hg1 hs1 hac hAm hcm' q1 hwm hv kl
    have BXm := Lib.hid bxm
    have CTm := Lib.hid ctm
    have MPm := Lib.hid mpm
    have RWm := Lib.hid rwm
    have OWm := Lib.hid owm
    have CGm := Lib.hid cgm
    have k1 := blk_cell bxm 1
    have f1 := blk_free bxm 1
    have lm := lt_of_blk bxm
    have nlm : lb ≠ wm.heap.size := by omega
    have blo : base ≤ wm.heap.size := by have := LO.out.1; omega
    clear bxm ctm mpm rwm owm cgm
    go_wp2_with (first
      | (refine wpList_look_run rfl (.tmp 26) (.tmp 27) 57 true rfl HLK.out ?_)
      | (refine wpList_append_Row _ rfl (.tmp 53) (.tmp 55) 22 rfl base 9 _ 1 16 Try.underlying22 Try.info9 rfl (by omega) (.slice Am F.length cm) F.length (scells F) rfl ?c0 (some ⟨wm.heap.size, 0, none⟩) 1 1 (scells [s]) rfl rfl ?c1 ?c2 ?c3 ?c4 ?c5 ?_))
    case c0 => exact Row.chg RWm.out ((Chg.refl (M := NoM) wm).alloc _) (fun _ _ _ _ _ h => h)
    case c1 =>
      first
        | exact fun _ => ⟨_, rfl, news_blk (cs := [Value.string s]) (blk_new wm (.cells #[.string s] 9))⟩
        | (intro x u hu; exact hu)
    case c2 => exact scells_one _
    case c3 => omega
    case c4 => omega
    case c5 => first | omega | (simp; omega)
    intro v3 w3 R
    have hr3 := R.row
    rw [← scells_append] at hr3
    obtain ⟨A3, c3, rfl, hc3a, hc3b⟩ := hr3.slice
    have b3 := R.chg.block _ _ (blk_alloc BXm.out _) (RowM.ne (by decide))
    have RR := Lib.hid R
    have B3 := Lib.hid b3
    have R3 := Lib.hid hr3
    clear R b3 hr3 k1 f1
    go_wp2_with (refine wpList_store_box rfl 22 (.tmp 58) (.tmp 56) rfl lb 1 rfl A3 (F.length + 1) c3 rfl 59 _ B3.out (by kernel_rfl) (by simp) ?_)
    intro w4 b4 c4 s4
    have B4 : Hid (w4.heap[lb]? = some (.cells #[.pointer (some ⟨nb, 0, none⟩), .slice A3 (F.length + 1) c3, .map (some mb)] 59 (0, 0))) := b4
    have C4 := Lib.hid c4
    have R4 : Hid (Row w4 base 9 1 (.slice A3 (F.length + 1) c3) (F.length + 1) (scells (F ++ [s]))) := Row.chg R3.out c4 (fun g c f _ _ => BoxM.ne (by decide))
    obtain ⟨fm, hm1, hm2⟩ := MPm.out
    have M4 : Hid (MapAt Try.prog 9 w4 mb fm) := ((hm1.chgNo ((Chg.refl wm).alloc (.cells #[.string s] 9))).chg RR.out.chg (fun es c => by rintro ⟨_, _, _, h⟩; cases h)).chg c4 (fun es c => by rintro ⟨_, _, _, h⟩; cases h)
    have T4 : Hid (CtrAt w4 nb (f + own.length + 1) most) := c4.block _ _ (RR.out.chg.block _ _ (blk_alloc CTm.out _) (RowM.ne (by decide))) (BoxM.ne (by decide))
    have k2 := blk_cell b4 2
    have HM2 := Lib.hid hm2
    clear b4 c4 s4 hm1 hm2
    go_wp2_with (refine wpList_put_f (f := fm) (key := .string s) (val := .int .i64 (f + own.length + 1)) rfl (.tmp 62) (.tmp 63) (.tmp 64) 57 rfl M4.out keyed9 Try.underlying57 rfl rfl rfl (key_s hs) ?_)
    intro w5 hm5 hc5 hs5
    have nlb : lb ≠ mb := M4.out.ne B4.out
    have nnb : nb ≠ mb := M4.out.ne T4.out
    have B5 := hc5.block _ _ B4.out (fun h => nlb h.1)
    have T5 := hc5.block _ _ T4.out (fun h => nnb h.1)
    have R5 := Row.chg R4.out hc5 (fun g c f _ _ => by rintro ⟨_, _, _, h⟩; cases h)
    have HM5 := Lib.hid (And.intro hm5 (HM2.out.snoc s))
    have OW3 : Hid (OwnG w v (.slice A3 (F.length + 1) c3)) := by
      intro g hg
      rcases RR.out.own with h | h
      · rw [h] at hg; exact .inl (OWm.out g hg)
      · rw [h] at hg
        simp at hg
        have := CGm.out.size
        exact .inr (by omega)
    have L5 : Hid (LogAt w5 base lb f (own ++ [s]) most nb mb (.slice A3 (F.length + 1) c3)) := by
      have hk : keysOf f (own ++ [s]) = F ++ [s] := by rw [keys_snoc, hF]
      refine ⟨B5, ?_, ⟨_, HM5.out⟩, ?_, LO.out⟩
      · have : f + ((own ++ [s]).length : Int) = f + own.length + 1 := by simp; omega
        rw [this]; exact T5
      · rw [hk, List.length_append, List.length_singleton]; exact R5
    have C5 : Hid (Chg (LogM lb nb mb v) w w5) := by
      refine (((CGm.out.trans ((Chg.refl wm).alloc _)).then RR.out.chg (fun i o hi h => ?_)).trans (C4.out.mono (fun k o _ h => .inl h))).trans (hc5.mono (fun k o _ h => .inr (.inr (.inl h))))
      exact .inr (.inr (.inr ⟨OWm.out i h.1, h.2⟩))
    clear hm5 hc5 hs5 B5 T5 R5
    go_wp2_with fail
    go_ret2
    exact ⟨rfl, _, L5.out, OW3.out, C5.out⟩
end Go.Proofs.Ytpfkgigfkonocaa
