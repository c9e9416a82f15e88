/- The walk of NetPlays. -/
import Derived.Test.YtmkjonfdeolihaaLike
import Derived.Test.YtmkjonfdeolihaaRefC
import Derived.Test.YtmkjonfdeolihaaRefM
import Derived.Deep.DeepCutAuto
import Derived.Deep.CutBlock
namespace Go.Proofs.Ytmkjonfdeolihaa
set_option linter.unusedVariables false
set_option linter.unusedSimpArgs false
open Go.RowKit

theorem rdata_pdata {L l : List Pk} (h : pdata L = pdata l) : rdata L = rdata l := by
  have e : ∀ m : List Pk, rdata m = (pdata m).map fun q => (q.1, (⟨q.2.toArray⟩ : ByteArray)) := fun m => by simp [rdata, pdata]
  rw [e, e, h]

/-- Behind the reference's step: its struct is written anew; the net is as it was. -/
def Mid (w0 wr : World) (nb wb : Nat) (most lost : Int) (l : List Pk) (v Lv : Value) (lostR : Int) (lR : List (ByteArray × ByteArray)) : Prop :=
  Chg NoM w0 wr ∧ NetAt wr w0.heap.size nb most l lost v ∧ wr.heap[wb]? = some (.cells #[.int .i64 most, Lv, .int .i64 lostR] 33 (0, 0)) ∧ RefAt wr w0.heap.size Lv lR ∧ (∀ p ∈ l, p.b.length ≤ 6)
theorem Side.mid {w0 wc w2 V : World} {nb wb : Nat} {most lost lostR : Int} {l : List Pk} {v Lv Lv' : Value} {lR : List (ByteArray × ByteArray)} (h : Side w0 wc nb wb most lost l v Lv) (hwb : w0.heap.size ≤ wb) (hc : Chg NoM wc w2)
    (hc5 : Chg (BoxM wb 33) w2 V) (hb5 : V.heap[wb]? = some (.cells #[.int .i64 most, Lv', .int .i64 lostR] 33 (0, 0))) (hr : RefAt w2 w0.heap.size Lv' lR) : Mid w0 V nb wb most lost l v Lv' lostR lR :=
  ⟨(h.1.trans hc).thenAll hc5 (fun i o h => by rw [h.1]; exact hwb), (h.2.1.chgNo hc).chg hc5 (fun _ _ _ _ => BoxM.ne (by decide)) (fun _ _ _ _ => BoxM.ne (by decide)) (fun _ _ _ _ => BoxM.ne (by decide)), hb5,
    Row.chg hr hc5 (fun _ _ _ _ _ => BoxM.ne (by decide)), h.2.2.2.2⟩
theorem Mid.chgNo {w0 V V' : World} {nb wb : Nat} {most lost lostR : Int} {l : List Pk} {v Lv : Value} {lR : List (ByteArray × ByteArray)} (h : Mid w0 V nb wb most lost l v Lv lostR lR) (hc : Chg NoM V V') : Mid w0 V' nb wb most lost l v Lv lostR lR :=
  ⟨h.1.trans hc, h.2.1.chgNo hc, hc.blkNo h.2.2.1, h.2.2.2.1.chgNo hc, h.2.2.2.2⟩
theorem Mid.net {w0 V w4 : World} {nb wb : Nat} {most lost lost' : Int} {l l' : List Pk} {v v' Lv : Value} {lR : List (ByteArray × ByteArray)} (h : Mid w0 V nb wb most lost l v Lv lost' lR) (hc : Chg (NetX nb v) V w4)
    (hn : NetAt w4 w0.heap.size nb most l' lost' v') (e : lR = rdata l') (h6 : ∀ p ∈ l', p.b.length ≤ 6) : Side w0 w4 nb wb most lost' l' v' Lv := by
  subst e
  refine ⟨h.1.thenAll hc (NetX.new h.2.1), hn, hc.block _ _ h.2.2.1 (NetX.ne h.2.1 h.2.2.1 (by decide) (by decide)), Row.chg h.2.2.2.1 hc ?_, h6⟩
  rintro g c f hg _ (e | e)
  · exact Row.own_ne h.2.2.2.1 h.2.1.2.1 (by decide) (by rw [hg]; exact congrArg some e)
  · exact RowM.ne (by decide) e
theorem Mid.done {w0 V : World} {nb wb : Nat} {most lost : Int} {l : List Pk} {v Lv : Value} {lR : List (ByteArray × ByteArray)} (h : Mid w0 V nb wb most lost l v Lv lost lR) (e : lR = rdata l) : Side w0 V nb wb most lost l v Lv := by
  subst e
  exact h

set_option maxRecDepth 20000 in
set_option maxHeartbeats 8000000 in
theorem plays_walk (most : Int) (A : Option Addr) (ds : List Dd) (c : Nat) (w : World) (h1 : -9223372036854775808 ≤ most) (h2 : most ≤ 9223372036854775807) (hds : RowsAt DeedR 4 w A ds) :
    Calls Try.prog 6 #[.int .i64 most, .slice A ds.length c] w fun e w' => e = .returned (.bool true) ∧ Below w.heap.size w w' := by
  have HD := Lib.hid hds
  have dl := hds.1
  clear hds
  have hb := aroundI_bd most 6 (by omega)
  have A0 := Lib.hid (around_any most 6 w h1 h2 (by omega) (by omega))
  obtain ⟨a, ha⟩ : ∃ a : Nat, aroundI most 6 = a := ⟨(aroundI most 6).toNat, by omega⟩
  rw [ha] at hb A0
  clear ha
  obtain ⟨-, a2⟩ := hb
  go_enter Try.func6, Try.ntmps6
  go_wp2_with fail
  refine A0.out.mono ?_
  rintro e w1 ⟨rfl, rfl⟩
  go_wp2_with fail
  refine (new_yes (1 + (a : Int)) _ (by omega) (by omega)).mono ?_
  rintro e w1 ⟨rfl, hn1, hs1, hc1⟩
  have N1 := Lib.hid hn1
  have C1 := Lib.hid hc1
  have S1 := hs1
  clear hn1 hc1 hs1
  go_wp2_with fail
  have HS0 : Hid (Side w (w1.alloc (.cells #[.int .i64 (1 + (a : Int)), .slice none 0 0, .int .i64 0] 33)) w.heap.size (w.heap.size + 1) (1 + (a : Int)) 0 [] (.slice none 0 0) (.slice none 0 0)) :=
    ⟨C1.out.alloc _, N1.out.chgNo ((Chg.refl w1).alloc _), by rw [← S1]; exact blk_new w1 _, Row.nil _ _ _ _, fun p hp => by cases hp⟩
  clear S1
  go_loopw [9] (fun i wr => ∃ k : Nat, k ≤ ds.length ∧ k ≤ 20 ∧ i = .int .i64 k ∧ ∃ l v Lv lost, Hid (Side w wr w.heap.size (w.heap.size + 1) (1 + (a : Int)) lost l v Lv) ∧ Hid ((l.length : Int) ≤ 1 + (a : Int) ∧ 0 ≤ lost ∧ lost ≤ k)) (fun i _ => 20 - (intOf i).toNat)
  case atStart => exact ⟨0, by omega, by omega, rfl, [], _, _, 0, HS0, by simp; omega, by omega, by omega⟩
  case round =>
    obtain ⟨k, hk1, hk2, rfl, l, v, Lv, lost, HS, HL⟩ := hrel
    by_cases hlt : k < ds.length ∧ k < 20
    · obtain ⟨ha, hb⟩ := hlt
      obtain ⟨b, off, d, hA, hd, hby0, hbw, e0, e1, e2, e3, hby, hbl, hbc, hto, b1, b2, b3, b4⟩ := deed_at HD.out HS.out.1 k ha
      cases hA
      have BY := Lib.hid hby0
      clear hby0
      have i0 : (0 : Int) ≤ (k : Int) := by omega
      have i1 : (k : Int) < (ds.length : Int) := by omega
      have i4 : (k : Int).tmod 4 = ((k % 4 : Nat) : Int) := by rw [Int.tmod_eq_emod_of_nonneg (by omega)]; omega
      clear hd hby
      go_upto_if 58 with fail
      go_cut [10] (fun s wx => ∃ z : Int, s = .int .i64 z ∧ -9223372036854775808 ≤ z ∧ z ≤ 9223372036854775807 ∧ wx = wr)
      case first =>
        by_cases hk4 : 0 < ((k % 4 : Nat) : Int)
        · go_wp2_with fail
          have hb := aroundI_bd d.kk 7 (by omega)
          refine (around_any d.kk 7 _ b3 b4 (by omega) (by omega)).mono ?_
          rintro e w2 ⟨rfl, rfl⟩
          go_wp2_with fail
          go_meet
          exact ⟨_, rfl, by omega, by omega, rfl⟩
        · go_wp2_with fail
          go_meet
          exact ⟨_, rfl, b3, b4, rfl⟩
      case rest =>
        obtain ⟨z, rfl, z1, z2, rfl⟩ := hcut
        have hb := aroundI_bd d.dd 9 (by omega)
        have AD := Lib.hid (around_any d.dd 9 wc b1 b2 (by omega) (by omega))
        obtain ⟨x, hx⟩ : ∃ x, x = aroundI d.dd 9 := ⟨_, rfl⟩
        rw [← hx] at hb AD
        clear hx
        obtain ⟨x1, x2⟩ := hb
        go_upto_block 2 with (refine AD.out.mono ?_; rintro e w2 ⟨rfl, rfl⟩)
        go_cut [11, 12, 13, 14, 15, 16, 17, 18, 19, 20, 21, 22, 23, 24] (fun s1 s2 _ _ _ _ _ _ _ _ _ _ _ _ wx => ∃ t : Bool, s1 = .bool t ∧ s2 = .bool t ∧ ∃ l v Lv lost, Hid (Side w wx w.heap.size (w.heap.size + 1) (1 + (a : Int)) lost l v Lv) ∧ Hid ((l.length : Int) ≤ 1 + (a : Int) ∧ 0 ≤ lost ∧ lost ≤ k + 1))
        case first =>
          obtain ⟨AR, cR, rfl, _, _⟩ := Row.slice HS.out.2.2.2.1
          rw [rdata_len] at HS
          obtain ⟨hl6, hl0, hl1⟩ := HL.out
          have wb0 := HS.out.2.2.1
          have sz := lt_of_blk wb0
          have wb0_c0 := blk_cell wb0 0; have wb0_f0 := blk_free wb0 0; have wb0_c1 := blk_cell wb0 1; have wb0_f1 := blk_free wb0 1; have wb0_c2 := blk_cell wb0 2; have wb0_f2 := blk_free wb0 2; have H_wb0 := Lib.hid wb0; clear wb0
          have hx : x = 5 ∨ x = 6 ∨ x = 7 ∨ x = 8 ∨ x < 5 := by omega
          rcases hx with rfl | rfl | rfl | rfl | hx
          · by_cases hz : 0 ≤ z ∧ z < l.length
            · obtain ⟨kk, rfl⟩ : ∃ kk : Nat, z = kk := ⟨z.toNat, by omega⟩
              have hkl : kk < l.length := by omega
              obtain ⟨p, hp⟩ : ∃ p, l[kk]? = some p := ⟨_, List.getElem?_eq_getElem hkl⟩
              have HP := Lib.hid hp
              have h6 := HS.out.2.2.2.2 p (List.mem_of_getElem? hp)
              have PB := Lib.hid (HS.out.2.1.2.2.2 p (List.mem_of_getElem? hp))
              have TK := Lib.hid (rtake_yes w.heap.size (1 + (a : Int)) lost kk (.slice AR l.length cR) (rdata l) (p.to, ⟨p.b.toArray⟩) wc HS.out.2.2.2.1 (rdata_get l kk p hp) (by rw [rdata_len]; omega))
              clear hp
              go_wp2_with fail
              refine TK.out.mono ?_
              rintro e w2 ⟨Lv2, rfl, hr2, hc2⟩
              rw [← rdata_cut] at hr2
              have hl4 : (l.take kk ++ l.drop (kk + 1)).length + 1 = l.length := by rw [List.length_append, List.length_take, List.length_drop]; omega
              have h64 : ∀ q ∈ l.take kk ++ l.drop (kk + 1), q.b.length ≤ 6 := by
                intro q hq
                rcases List.mem_append.1 hq with h | h
                · exact HS.out.2.2.2.2 q (List.mem_of_mem_take h)
                · exact HS.out.2.2.2.2 q (List.mem_of_mem_drop h)
              obtain ⟨l2, hl2⟩ : ∃ l2, l2 = l.take kk ++ l.drop (kk + 1) := ⟨_, rfl⟩
              rw [← hl2] at hr2 hl4 h64
              have HL2 := Lib.hid hl2
              obtain ⟨R2, hR2⟩ : ∃ R, R = rdata l2 := ⟨_, rfl⟩
              rw [← hR2] at hr2
              have HR2 := Lib.hid hR2
              obtain ⟨A2, c2, rfl, _, _⟩ := Row.slice hr2
              have H64 := Lib.hid h64
              have RR := Lib.hid (RefAt.base hr2 HS.out.1.size)
              have C2 := Lib.hid hc2
              have wb2 := hc2.blkNo H_wb0.out
              have s2 := hc2.size
              have PB2 := Lib.hid (hc2.blkNo PB.out)
              clear hr2 hc2 hR2 hl2 h64 wb0_c0 wb0_c1 wb0_c2 wb0_f0 wb0_f1 wb0_f2
              have n1 : w.heap.size + 1 < w2.heap.size := by omega
              have n2 : w.heap.size < w2.heap.size := by omega
              have n3 : w.heap.size + 1 ≠ w2.heap.size := by omega
              have n4 : w.heap.size ≠ w2.heap.size := by omega
              have n5 : w.heap.size ≠ w2.heap.size + 1 := by omega
              have n6 : w.heap.size + 1 < w2.heap.size + 1 := by omega
              have n7 : w.heap.size < w2.heap.size + 1 := by omega
              have wb2_c0 := blk_cell wb2 0; have wb2_f0 := blk_free wb2 0; have wb2_c1 := blk_cell wb2 1; have wb2_f1 := blk_free wb2 1; have wb2_c2 := blk_cell wb2 2; have wb2_f2 := blk_free wb2 2; have H_wb2 := Lib.hid wb2; clear wb2
              go_wp2_with fail
              have MM : Hid (Mid w (((((w2.setCell ⟨w.heap.size + 1, 0, none⟩ (.int .i64 (1 + (a : Int)))).setCell ⟨w.heap.size + 1, 1, none⟩ (.slice A2 R2.length c2)).setCell ⟨w.heap.size + 1, 2, none⟩ (.int .i64 lost)).alloc (.cells #[.int .i64 (1 + (a : Int)), .slice A2 R2.length c2, .int .i64 lost] 33)).alloc (.cells #[.string p.to, .string ⟨p.b.toArray⟩] 44)) w.heap.size (w.heap.size + 1) (1 + (a : Int)) lost l v (.slice A2 R2.length c2) lost R2) :=
                Side.mid HS.out (by omega) C2.out (((((Chg.refl w2).setBox H_wb2.out).setBox H_wb2.out).setBox H_wb2.out |>.alloc _).alloc _) (blk_alloc (blk_alloc (blk_set (blk_set (blk_set H_wb2.out 0 _) 1 _) 2 _) _) _) RR.out
              have b14 : (((((w2.setCell ⟨w.heap.size + 1, 0, none⟩ (.int .i64 (1 + (a : Int)))).setCell ⟨w.heap.size + 1, 1, none⟩ (.slice A2 R2.length c2)).setCell ⟨w.heap.size + 1, 2, none⟩ (.int .i64 lost)).alloc (.cells #[.int .i64 (1 + (a : Int)), .slice A2 R2.length c2, .int .i64 lost] 33)).alloc (.cells #[.string p.to, .string ⟨p.b.toArray⟩] 44)).heap[w2.heap.size + 1]? = some (.cells #[.string p.to, .string ⟨p.b.toArray⟩] 44 (0, 0)) := by
                simpa using blk_new ((((w2.setCell ⟨w.heap.size + 1, 0, none⟩ (.int .i64 (1 + (a : Int)))).setCell ⟨w.heap.size + 1, 1, none⟩ (.slice A2 R2.length c2)).setCell ⟨w.heap.size + 1, 2, none⟩ (.int .i64 lost)).alloc (.cells #[.int .i64 (1 + (a : Int)), .slice A2 R2.length c2, .int .i64 lost] 33)) (.cells #[.string p.to, .string ⟨p.b.toArray⟩] 44)
              have B14 := Lib.hid b14
              clear b14 wb2_c0 wb2_c1 wb2_c2 wb2_f0 wb2_f1 wb2_f2
              generalize ((((w2.setCell ⟨w.heap.size + 1, 0, none⟩ (.int .i64 (1 + (a : Int)))).setCell ⟨w.heap.size + 1, 1, none⟩ (.slice A2 R2.length c2)).setCell ⟨w.heap.size + 1, 2, none⟩ (.int .i64 lost)).alloc (.cells #[.int .i64 (1 + (a : Int)), .slice A2 R2.length c2, .int .i64 lost] 33)).alloc (.cells #[.string p.to, .string ⟨p.b.toArray⟩] 44) = V at MM B14 ⊢
              have PV := Lib.hid (MM.out.2.1.2.2.2 p (List.mem_of_getElem? HP.out))
              refine (take_yes w.heap.size w.heap.size (1 + (a : Int)) lost kk l v p V MM.out.2.1 HP.out (by omega) MM.out.1.size).mono ?_
              rintro e w4 ⟨rfl, ⟨v4, hn4, -⟩, hc4⟩
              rw [← HL2.out] at hn4
              have HS4 := Lib.hid (MM.out.net hc4 hn4 HR2.out H64.out)
              have b4 := hc4.block _ _ B14.out (NetX.ne MM.out.2.1 B14.out (by decide) (by decide))
              have P4 := hc4.block _ _ PV.out (NetX.ne MM.out.2.1 PV.out (by decide) (by decide))
              have hbs := run_string_bytes (P := Try.prog) (w4.alloc (.cells #[.string p.to, .slice (some ⟨p.blk, 0, none⟩) p.b.length p.b.length] 36)) 34 9 5 Try.underlying34 Try.underlying5 Try.underlying9 (some ⟨p.blk, 0, none⟩) p.b p.b.length (bytes_blk (blk_alloc P4 _) (by omega))
              have s4 := lt_of_blk b4
              have m1 : w2.heap.size + 1 ≠ w4.heap.size := by omega
              have m2 : w2.heap.size ≠ w4.heap.size := by omega
              have m3 : w2.heap.size < w4.heap.size := by omega
              clear hn4 hc4 P4
              have b4_c0 := blk_cell b4 0; have b4_f0 := blk_free b4 0; have b4_c1 := blk_cell b4 1; have b4_f1 := blk_free b4 1; have H_b4 := Lib.hid b4; clear b4
              go_wp2_with fail
              go_meet
              refine ⟨true, rfl, rfl, l2, v4, .slice A2 R2.length c2, lost, HS4.out.chgNo ((Chg.refl w4).alloc _), ?_⟩
              show _ ∧ _ ∧ _
              omega
            · have hz2 : z < 0 ∨ (l.length : Int) ≤ z := by omega
              have TK := Lib.hid (rtake_no w.heap.size (1 + (a : Int)) lost z (.slice AR l.length cR) (rdata l) wc HS.out.2.2.2.1 (by rw [rdata_len]; omega))
              go_wp2_with fail
              refine TK.out.mono ?_
              rintro e w2 ⟨rfl, hc2⟩
              have C2 := Lib.hid hc2
              have wb2 := hc2.blkNo H_wb0.out
              have s2 := hc2.size
              clear hc2 wb0_c0 wb0_c1 wb0_c2 wb0_f0 wb0_f1 wb0_f2
              have n1 : w.heap.size + 1 < w2.heap.size := by omega
              have n2 : w.heap.size < w2.heap.size := by omega
              have n3 : w.heap.size + 1 ≠ w2.heap.size := by omega
              have n4 : w.heap.size ≠ w2.heap.size := by omega
              have n5 : w.heap.size ≠ w2.heap.size + 1 := by omega
              have n6 : w.heap.size + 1 < w2.heap.size + 1 := by omega
              have n7 : w.heap.size < w2.heap.size + 1 := by omega
              have wb2_c0 := blk_cell wb2 0; have wb2_f0 := blk_free wb2 0; have wb2_c1 := blk_cell wb2 1; have wb2_f1 := blk_free wb2 1; have wb2_c2 := blk_cell wb2 2; have wb2_f2 := blk_free wb2 2; have H_wb2 := Lib.hid wb2; clear wb2
              go_wp2_with fail
              have MM : Hid (Mid w (((((w2.setCell ⟨w.heap.size + 1, 0, none⟩ (.int .i64 (1 + (a : Int)))).setCell ⟨w.heap.size + 1, 1, none⟩ (.slice AR l.length cR)).setCell ⟨w.heap.size + 1, 2, none⟩ (.int .i64 (lost))).alloc (.cells #[.int .i64 (1 + (a : Int)), .slice AR l.length cR, .int .i64 (lost)] 33)).alloc (.cells #[.string ⟨#[]⟩, .string ⟨#[]⟩] 44)) w.heap.size (w.heap.size + 1) (1 + (a : Int)) lost l v (.slice AR l.length cR) (lost) (rdata l)) :=
                Side.mid HS.out (by omega) C2.out (((((Chg.refl w2).setBox H_wb2.out).setBox H_wb2.out).setBox H_wb2.out |>.alloc _).alloc _) (blk_alloc (blk_alloc (blk_set (blk_set (blk_set H_wb2.out 0 _) 1 _) 2 _) _) _) (HS.out.2.2.2.1.chgNo C2.out)
              have b14 : (((((w2.setCell ⟨w.heap.size + 1, 0, none⟩ (.int .i64 (1 + (a : Int)))).setCell ⟨w.heap.size + 1, 1, none⟩ (.slice AR l.length cR)).setCell ⟨w.heap.size + 1, 2, none⟩ (.int .i64 (lost))).alloc (.cells #[.int .i64 (1 + (a : Int)), .slice AR l.length cR, .int .i64 (lost)] 33)).alloc (.cells #[.string ⟨#[]⟩, .string ⟨#[]⟩] 44)).heap[w2.heap.size + 1]? = some (.cells #[.string ⟨#[]⟩, .string ⟨#[]⟩] 44 (0, 0)) := by simpa using blk_new ((((w2.setCell ⟨w.heap.size + 1, 0, none⟩ (.int .i64 (1 + (a : Int)))).setCell ⟨w.heap.size + 1, 1, none⟩ (.slice AR l.length cR)).setCell ⟨w.heap.size + 1, 2, none⟩ (.int .i64 (lost))).alloc (.cells #[.int .i64 (1 + (a : Int)), .slice AR l.length cR, .int .i64 (lost)] 33)) (.cells #[.string ⟨#[]⟩, .string ⟨#[]⟩] 44)
              have B14 := Lib.hid b14
              clear b14
              clear wb2_c0 wb2_c1 wb2_c2 wb2_f0 wb2_f1 wb2_f2
              generalize ((((w2.setCell ⟨w.heap.size + 1, 0, none⟩ (.int .i64 (1 + (a : Int)))).setCell ⟨w.heap.size + 1, 1, none⟩ (.slice AR l.length cR)).setCell ⟨w.heap.size + 1, 2, none⟩ (.int .i64 (lost))).alloc (.cells #[.int .i64 (1 + (a : Int)), .slice AR l.length cR, .int .i64 (lost)] 33)).alloc (.cells #[.string ⟨#[]⟩, .string ⟨#[]⟩] 44) = V at MM B14 ⊢
              refine (take_no w.heap.size w.heap.size (1 + (a : Int)) lost z l v V MM.out.2.1 (by omega)).mono ?_
              rintro e w4 ⟨rfl, hc4⟩
              have HS4 := Lib.hid ((MM.out.done rfl).chgNo hc4)
              have b4 := hc4.blkNo B14.out
              obtain ⟨e0, he0⟩ : ∃ e0 : ByteArray, e0 = ⟨#[]⟩ := ⟨_, rfl⟩
              have hbs : (convert 34 9 (.slice none 0 0)).run Try.prog (w4.alloc (.cells #[.string ⟨#[]⟩, .slice none 0 0] 36)) = .ok (.string e0) (w4.alloc (.cells #[.string ⟨#[]⟩, .slice none 0 0] 36)) := by
                rw [he0]
                exact run_string_bytes (P := Try.prog) (w4.alloc (.cells #[.string ⟨#[]⟩, .slice none 0 0] 36)) 34 9 5 Try.underlying34 Try.underlying5 Try.underlying9 none [] 0 ⟨by simp, fun h => by simp at h⟩
              have heq : ∀ W, (binOp .neq 9 (.string e0) (.string ⟨#[]⟩)).run Try.prog W = .ok (.bool false) W := by
                intro W
                rw [he0]
                kernel_rfl
              have he1 : (!e0.toList.isEmpty) = false := by rw [he0, show (⟨#[]⟩ : ByteArray).toList = [] from ByteArray.toList_mk []]; rfl
              clear he0
              have s4 := lt_of_blk b4
              have m1 : w2.heap.size + 1 ≠ w4.heap.size := by omega
              have m2 : w2.heap.size ≠ w4.heap.size := by omega
              have m3 : w2.heap.size < w4.heap.size := by omega
              clear hc4
              have b4_c0 := blk_cell b4 0; have b4_f0 := blk_free b4 0; have b4_c1 := blk_cell b4 1; have b4_f1 := blk_free b4 1; have H_b4 := Lib.hid b4; clear b4
              go_wp2_with fail
              go_meet
              refine ⟨false, rfl, rfl, l, v, .slice AR l.length cR, lost, HS4.out.chgNo ((Chg.refl w4).alloc _), ?_⟩
              show _ ∧ _ ∧ _
              omega
          · by_cases hz : 0 ≤ z ∧ z < l.length
            · obtain ⟨kk, rfl⟩ : ∃ kk : Nat, z = kk := ⟨z.toNat, by omega⟩
              have hkl : kk < l.length := by omega
              by_cases hfull : (l.length : Int) < 1 + (a : Int)
              · have _h := hkl
                obtain ⟨p, hp⟩ : ∃ p, l[kk]? = some p := ⟨_, List.getElem?_eq_getElem hkl⟩
                have HP := Lib.hid hp
                have h6 := HS.out.2.2.2.2 p (List.mem_of_getElem? hp)
                have TK := Lib.hid (rcopy_yes w.heap.size (1 + (a : Int)) lost kk (.slice AR l.length cR) (rdata l) (p.to, ⟨p.b.toArray⟩) wc HS.out.2.2.2.1 (rdata_get l kk p hp) (by rw [rdata_len]; omega) (by omega))
                clear hp
                go_wp2_with fail
                refine TK.out.mono ?_
                rintro e w2 ⟨Lv2, rfl, hr2, hc2⟩
                obtain ⟨R2, hR2⟩ : ∃ R, R = rdata l ++ [(p.to, ⟨p.b.toArray⟩)] := ⟨_, rfl⟩
                rw [← hR2] at hr2
                have HR2 := Lib.hid hR2
                obtain ⟨A2, c2, rfl, _, _⟩ := Row.slice hr2
                have RR := Lib.hid (RefAt.base hr2 HS.out.1.size)
                clear hr2 hR2
                have C2 := Lib.hid hc2
                have wb2 := hc2.blkNo H_wb0.out
                have s2 := hc2.size
                clear hc2 wb0_c0 wb0_c1 wb0_c2 wb0_f0 wb0_f1 wb0_f2
                have n1 : w.heap.size + 1 < w2.heap.size := by omega
                have n2 : w.heap.size < w2.heap.size := by omega
                have n3 : w.heap.size + 1 ≠ w2.heap.size := by omega
                have n4 : w.heap.size ≠ w2.heap.size := by omega
                have n5 : w.heap.size ≠ w2.heap.size + 1 := by omega
                have n6 : w.heap.size + 1 < w2.heap.size + 1 := by omega
                have n7 : w.heap.size < w2.heap.size + 1 := by omega
                have wb2_c0 := blk_cell wb2 0; have wb2_f0 := blk_free wb2 0; have wb2_c1 := blk_cell wb2 1; have wb2_f1 := blk_free wb2 1; have wb2_c2 := blk_cell wb2 2; have wb2_f2 := blk_free wb2 2; have H_wb2 := Lib.hid wb2; clear wb2
                go_wp2_with fail
                have MM : Hid (Mid w ((((w2.setCell ⟨w.heap.size + 1, 0, none⟩ (.int .i64 (1 + (a : Int)))).setCell ⟨w.heap.size + 1, 1, none⟩ (.slice A2 R2.length c2)).setCell ⟨w.heap.size + 1, 2, none⟩ (.int .i64 (lost))).alloc (.cells #[.int .i64 (1 + (a : Int)), .slice A2 R2.length c2, .int .i64 (lost)] 33)) w.heap.size (w.heap.size + 1) (1 + (a : Int)) lost l v (.slice A2 R2.length c2) (lost) (R2)) :=
                  Side.mid HS.out (by omega) C2.out ((((Chg.refl w2).setBox H_wb2.out).setBox H_wb2.out).setBox H_wb2.out |>.alloc _) (blk_alloc (blk_set (blk_set (blk_set H_wb2.out 0 _) 1 _) 2 _) _) RR.out
                clear wb2_c0 wb2_c1 wb2_c2 wb2_f0 wb2_f1 wb2_f2
                generalize (((w2.setCell ⟨w.heap.size + 1, 0, none⟩ (.int .i64 (1 + (a : Int)))).setCell ⟨w.heap.size + 1, 1, none⟩ (.slice A2 R2.length c2)).setCell ⟨w.heap.size + 1, 2, none⟩ (.int .i64 (lost))).alloc (.cells #[.int .i64 (1 + (a : Int)), .slice A2 R2.length c2, .int .i64 (lost)] 33) = V at MM ⊢
                refine (copy_yes w.heap.size w.heap.size (1 + (a : Int)) lost kk l v p V MM.out.2.1 HP.out (by omega) (by omega) (by omega)).mono ?_
                rintro e w4 ⟨rfl, bb, v4, hbb, hn4, hc4⟩
                have HS4 := Lib.hid (MM.out.net hc4 hn4 (by rw [HR2.out, rdata_append]; rfl) (fun q hq => by
                  rcases List.mem_append.1 hq with h | h
                  · exact HS.out.2.2.2.2 q h
                  · obtain rfl : q = ⟨p.to, p.b, bb⟩ := by simpa using h
                    exact h6))
                clear hn4 hc4
                go_wp2_with fail
                go_meet
                refine ⟨true, rfl, rfl, l ++ [⟨p.to, p.b, bb⟩], v4, .slice A2 R2.length c2, lost, HS4, ?_⟩
                show _ ∧ _ ∧ _
                rw [List.length_append, List.length_singleton]
                omega
              · have _h := hkl
                obtain ⟨p, hp⟩ : ∃ p, l[kk]? = some p := ⟨_, List.getElem?_eq_getElem hkl⟩
                have HP := Lib.hid hp
                have h6 := HS.out.2.2.2.2 p (List.mem_of_getElem? hp)
                have TK := Lib.hid (rcopy_full w.heap.size (1 + (a : Int)) lost kk (.slice AR l.length cR) (rdata l) (p.to, ⟨p.b.toArray⟩) wc HS.out.2.2.2.1 (rdata_get l kk p hp) (by rw [rdata_len]; omega) (by omega) (by omega))
                clear hp
                go_wp2_with fail
                refine TK.out.mono ?_
                rintro e w2 ⟨rfl, hc2⟩
                have C2 := Lib.hid hc2
                have wb2 := hc2.blkNo H_wb0.out
                have s2 := hc2.size
                clear hc2 wb0_c0 wb0_c1 wb0_c2 wb0_f0 wb0_f1 wb0_f2
                have n1 : w.heap.size + 1 < w2.heap.size := by omega
                have n2 : w.heap.size < w2.heap.size := by omega
                have n3 : w.heap.size + 1 ≠ w2.heap.size := by omega
                have n4 : w.heap.size ≠ w2.heap.size := by omega
                have n5 : w.heap.size ≠ w2.heap.size + 1 := by omega
                have n6 : w.heap.size + 1 < w2.heap.size + 1 := by omega
                have n7 : w.heap.size < w2.heap.size + 1 := by omega
                have wb2_c0 := blk_cell wb2 0; have wb2_f0 := blk_free wb2 0; have wb2_c1 := blk_cell wb2 1; have wb2_f1 := blk_free wb2 1; have wb2_c2 := blk_cell wb2 2; have wb2_f2 := blk_free wb2 2; have H_wb2 := Lib.hid wb2; clear wb2
                go_wp2_with fail
                have MM : Hid (Mid w ((((w2.setCell ⟨w.heap.size + 1, 0, none⟩ (.int .i64 (1 + (a : Int)))).setCell ⟨w.heap.size + 1, 1, none⟩ (.slice AR l.length cR)).setCell ⟨w.heap.size + 1, 2, none⟩ (.int .i64 (lost + 1))).alloc (.cells #[.int .i64 (1 + (a : Int)), .slice AR l.length cR, .int .i64 (lost + 1)] 33)) w.heap.size (w.heap.size + 1) (1 + (a : Int)) lost l v (.slice AR l.length cR) (lost + 1) (rdata l)) :=
                  Side.mid HS.out (by omega) C2.out ((((Chg.refl w2).setBox H_wb2.out).setBox H_wb2.out).setBox H_wb2.out |>.alloc _) (blk_alloc (blk_set (blk_set (blk_set H_wb2.out 0 _) 1 _) 2 _) _) (HS.out.2.2.2.1.chgNo C2.out)
                clear wb2_c0 wb2_c1 wb2_c2 wb2_f0 wb2_f1 wb2_f2
                generalize (((w2.setCell ⟨w.heap.size + 1, 0, none⟩ (.int .i64 (1 + (a : Int)))).setCell ⟨w.heap.size + 1, 1, none⟩ (.slice AR l.length cR)).setCell ⟨w.heap.size + 1, 2, none⟩ (.int .i64 (lost + 1))).alloc (.cells #[.int .i64 (1 + (a : Int)), .slice AR l.length cR, .int .i64 (lost + 1)] 33) = V at MM ⊢
                refine (copy_full w.heap.size w.heap.size (1 + (a : Int)) lost kk l v p V MM.out.2.1 HP.out (by omega) (by omega) (by omega)).mono ?_
                rintro e w4 ⟨rfl, hn4, hc4⟩
                have HS4 := Lib.hid (MM.out.net hc4 hn4 rfl HS.out.2.2.2.2)
                clear hn4 hc4
                go_wp2_with fail
                go_meet
                refine ⟨false, rfl, rfl, l, v, .slice AR l.length cR, lost + 1, HS4, ?_⟩
                show _ ∧ _ ∧ _
                omega
            · have hz2 : z < 0 ∨ (l.length : Int) ≤ z := by omega
              have TK := Lib.hid (rcopy_no w.heap.size (1 + (a : Int)) lost z (.slice AR l.length cR) (rdata l) wc HS.out.2.2.2.1 (by rw [rdata_len]; omega))
              go_wp2_with fail
              refine TK.out.mono ?_
              rintro e w2 ⟨rfl, hc2⟩
              have C2 := Lib.hid hc2
              have wb2 := hc2.blkNo H_wb0.out
              have s2 := hc2.size
              clear hc2 wb0_c0 wb0_c1 wb0_c2 wb0_f0 wb0_f1 wb0_f2
              have n1 : w.heap.size + 1 < w2.heap.size := by omega
              have n2 : w.heap.size < w2.heap.size := by omega
              have n3 : w.heap.size + 1 ≠ w2.heap.size := by omega
              have n4 : w.heap.size ≠ w2.heap.size := by omega
              have n5 : w.heap.size ≠ w2.heap.size + 1 := by omega
              have n6 : w.heap.size + 1 < w2.heap.size + 1 := by omega
              have n7 : w.heap.size < w2.heap.size + 1 := by omega
              have wb2_c0 := blk_cell wb2 0; have wb2_f0 := blk_free wb2 0; have wb2_c1 := blk_cell wb2 1; have wb2_f1 := blk_free wb2 1; have wb2_c2 := blk_cell wb2 2; have wb2_f2 := blk_free wb2 2; have H_wb2 := Lib.hid wb2; clear wb2
              go_wp2_with fail
              have MM : Hid (Mid w ((((w2.setCell ⟨w.heap.size + 1, 0, none⟩ (.int .i64 (1 + (a : Int)))).setCell ⟨w.heap.size + 1, 1, none⟩ (.slice AR l.length cR)).setCell ⟨w.heap.size + 1, 2, none⟩ (.int .i64 (lost))).alloc (.cells #[.int .i64 (1 + (a : Int)), .slice AR l.length cR, .int .i64 (lost)] 33)) w.heap.size (w.heap.size + 1) (1 + (a : Int)) lost l v (.slice AR l.length cR) (lost) (rdata l)) :=
                Side.mid HS.out (by omega) C2.out ((((Chg.refl w2).setBox H_wb2.out).setBox H_wb2.out).setBox H_wb2.out |>.alloc _) (blk_alloc (blk_set (blk_set (blk_set H_wb2.out 0 _) 1 _) 2 _) _) (HS.out.2.2.2.1.chgNo C2.out)
              clear wb2_c0 wb2_c1 wb2_c2 wb2_f0 wb2_f1 wb2_f2
              generalize (((w2.setCell ⟨w.heap.size + 1, 0, none⟩ (.int .i64 (1 + (a : Int)))).setCell ⟨w.heap.size + 1, 1, none⟩ (.slice AR l.length cR)).setCell ⟨w.heap.size + 1, 2, none⟩ (.int .i64 (lost))).alloc (.cells #[.int .i64 (1 + (a : Int)), .slice AR l.length cR, .int .i64 (lost)] 33) = V at MM ⊢
              refine (copy_no w.heap.size w.heap.size (1 + (a : Int)) lost z l v V MM.out.2.1 (by omega)).mono ?_
              rintro e w4 ⟨rfl, rfl⟩
              go_wp2_with fail
              go_meet
              refine ⟨false, rfl, rfl, l, v, .slice AR l.length cR, lost, MM.out.done rfl, ?_⟩
              show _ ∧ _ ∧ _
              omega
          · by_cases hz : 0 ≤ z ∧ z < l.length
            · obtain ⟨kk, rfl⟩ : ∃ kk : Nat, z = kk := ⟨z.toNat, by omega⟩
              have hkl : kk < l.length := by omega
              by_cases hfull : (l.length : Int) < 1 + (a : Int)
              · have _h := hkl
                obtain ⟨p, hp⟩ : ∃ p, l[kk]? = some p := ⟨_, List.getElem?_eq_getElem hkl⟩
                have HP := Lib.hid hp
                have h6 := HS.out.2.2.2.2 p (List.mem_of_getElem? hp)
                have TK := Lib.hid (rcopy_yes w.heap.size (1 + (a : Int)) lost kk (.slice AR l.length cR) (rdata l) (p.to, ⟨p.b.toArray⟩) wc HS.out.2.2.2.1 (rdata_get l kk p hp) (by rw [rdata_len]; omega) (by omega))
                clear hp
                go_wp2_with fail
                refine TK.out.mono ?_
                rintro e w2 ⟨Lv2, rfl, hr2, hc2⟩
                obtain ⟨R2, hR2⟩ : ∃ R, R = rdata l ++ [(p.to, ⟨p.b.toArray⟩)] := ⟨_, rfl⟩
                rw [← hR2] at hr2
                have HR2 := Lib.hid hR2
                obtain ⟨A2, c2, rfl, _, _⟩ := Row.slice hr2
                have RR := Lib.hid (RefAt.base hr2 HS.out.1.size)
                clear hr2 hR2
                have C2 := Lib.hid hc2
                have wb2 := hc2.blkNo H_wb0.out
                have s2 := hc2.size
                clear hc2 wb0_c0 wb0_c1 wb0_c2 wb0_f0 wb0_f1 wb0_f2
                have n1 : w.heap.size + 1 < w2.heap.size := by omega
                have n2 : w.heap.size < w2.heap.size := by omega
                have n3 : w.heap.size + 1 ≠ w2.heap.size := by omega
                have n4 : w.heap.size ≠ w2.heap.size := by omega
                have n5 : w.heap.size ≠ w2.heap.size + 1 := by omega
                have n6 : w.heap.size + 1 < w2.heap.size + 1 := by omega
                have n7 : w.heap.size < w2.heap.size + 1 := by omega
                have wb2_c0 := blk_cell wb2 0; have wb2_f0 := blk_free wb2 0; have wb2_c1 := blk_cell wb2 1; have wb2_f1 := blk_free wb2 1; have wb2_c2 := blk_cell wb2 2; have wb2_f2 := blk_free wb2 2; have H_wb2 := Lib.hid wb2; clear wb2
                go_wp2_with fail
                have MM : Hid (Mid w ((((w2.setCell ⟨w.heap.size + 1, 0, none⟩ (.int .i64 (1 + (a : Int)))).setCell ⟨w.heap.size + 1, 1, none⟩ (.slice A2 R2.length c2)).setCell ⟨w.heap.size + 1, 2, none⟩ (.int .i64 (lost))).alloc (.cells #[.int .i64 (1 + (a : Int)), .slice A2 R2.length c2, .int .i64 (lost)] 33)) w.heap.size (w.heap.size + 1) (1 + (a : Int)) lost l v (.slice A2 R2.length c2) (lost) (R2)) :=
                  Side.mid HS.out (by omega) C2.out ((((Chg.refl w2).setBox H_wb2.out).setBox H_wb2.out).setBox H_wb2.out |>.alloc _) (blk_alloc (blk_set (blk_set (blk_set H_wb2.out 0 _) 1 _) 2 _) _) RR.out
                clear wb2_c0 wb2_c1 wb2_c2 wb2_f0 wb2_f1 wb2_f2
                generalize (((w2.setCell ⟨w.heap.size + 1, 0, none⟩ (.int .i64 (1 + (a : Int)))).setCell ⟨w.heap.size + 1, 1, none⟩ (.slice A2 R2.length c2)).setCell ⟨w.heap.size + 1, 2, none⟩ (.int .i64 (lost))).alloc (.cells #[.int .i64 (1 + (a : Int)), .slice A2 R2.length c2, .int .i64 (lost)] 33) = V at MM ⊢
                refine (copy_yes w.heap.size w.heap.size (1 + (a : Int)) lost kk l v p V MM.out.2.1 HP.out (by omega) (by omega) (by omega)).mono ?_
                rintro e w4 ⟨rfl, bb, v4, hbb, hn4, hc4⟩
                have HS4 := Lib.hid (MM.out.net hc4 hn4 (by rw [HR2.out, rdata_append]; rfl) (fun q hq => by
                  rcases List.mem_append.1 hq with h | h
                  · exact HS.out.2.2.2.2 q h
                  · obtain rfl : q = ⟨p.to, p.b, bb⟩ := by simpa using h
                    exact h6))
                clear hn4 hc4
                go_wp2_with fail
                go_meet
                refine ⟨true, rfl, rfl, l ++ [⟨p.to, p.b, bb⟩], v4, .slice A2 R2.length c2, lost, HS4, ?_⟩
                show _ ∧ _ ∧ _
                rw [List.length_append, List.length_singleton]
                omega
              · have _h := hkl
                obtain ⟨p, hp⟩ : ∃ p, l[kk]? = some p := ⟨_, List.getElem?_eq_getElem hkl⟩
                have HP := Lib.hid hp
                have h6 := HS.out.2.2.2.2 p (List.mem_of_getElem? hp)
                have TK := Lib.hid (rcopy_full w.heap.size (1 + (a : Int)) lost kk (.slice AR l.length cR) (rdata l) (p.to, ⟨p.b.toArray⟩) wc HS.out.2.2.2.1 (rdata_get l kk p hp) (by rw [rdata_len]; omega) (by omega) (by omega))
                clear hp
                go_wp2_with fail
                refine TK.out.mono ?_
                rintro e w2 ⟨rfl, hc2⟩
                have C2 := Lib.hid hc2
                have wb2 := hc2.blkNo H_wb0.out
                have s2 := hc2.size
                clear hc2 wb0_c0 wb0_c1 wb0_c2 wb0_f0 wb0_f1 wb0_f2
                have n1 : w.heap.size + 1 < w2.heap.size := by omega
                have n2 : w.heap.size < w2.heap.size := by omega
                have n3 : w.heap.size + 1 ≠ w2.heap.size := by omega
                have n4 : w.heap.size ≠ w2.heap.size := by omega
                have n5 : w.heap.size ≠ w2.heap.size + 1 := by omega
                have n6 : w.heap.size + 1 < w2.heap.size + 1 := by omega
                have n7 : w.heap.size < w2.heap.size + 1 := by omega
                have wb2_c0 := blk_cell wb2 0; have wb2_f0 := blk_free wb2 0; have wb2_c1 := blk_cell wb2 1; have wb2_f1 := blk_free wb2 1; have wb2_c2 := blk_cell wb2 2; have wb2_f2 := blk_free wb2 2; have H_wb2 := Lib.hid wb2; clear wb2
                go_wp2_with fail
                have MM : Hid (Mid w ((((w2.setCell ⟨w.heap.size + 1, 0, none⟩ (.int .i64 (1 + (a : Int)))).setCell ⟨w.heap.size + 1, 1, none⟩ (.slice AR l.length cR)).setCell ⟨w.heap.size + 1, 2, none⟩ (.int .i64 (lost + 1))).alloc (.cells #[.int .i64 (1 + (a : Int)), .slice AR l.length cR, .int .i64 (lost + 1)] 33)) w.heap.size (w.heap.size + 1) (1 + (a : Int)) lost l v (.slice AR l.length cR) (lost + 1) (rdata l)) :=
                  Side.mid HS.out (by omega) C2.out ((((Chg.refl w2).setBox H_wb2.out).setBox H_wb2.out).setBox H_wb2.out |>.alloc _) (blk_alloc (blk_set (blk_set (blk_set H_wb2.out 0 _) 1 _) 2 _) _) (HS.out.2.2.2.1.chgNo C2.out)
                clear wb2_c0 wb2_c1 wb2_c2 wb2_f0 wb2_f1 wb2_f2
                generalize (((w2.setCell ⟨w.heap.size + 1, 0, none⟩ (.int .i64 (1 + (a : Int)))).setCell ⟨w.heap.size + 1, 1, none⟩ (.slice AR l.length cR)).setCell ⟨w.heap.size + 1, 2, none⟩ (.int .i64 (lost + 1))).alloc (.cells #[.int .i64 (1 + (a : Int)), .slice AR l.length cR, .int .i64 (lost + 1)] 33) = V at MM ⊢
                refine (copy_full w.heap.size w.heap.size (1 + (a : Int)) lost kk l v p V MM.out.2.1 HP.out (by omega) (by omega) (by omega)).mono ?_
                rintro e w4 ⟨rfl, hn4, hc4⟩
                have HS4 := Lib.hid (MM.out.net hc4 hn4 rfl HS.out.2.2.2.2)
                clear hn4 hc4
                go_wp2_with fail
                go_meet
                refine ⟨false, rfl, rfl, l, v, .slice AR l.length cR, lost + 1, HS4, ?_⟩
                show _ ∧ _ ∧ _
                omega
            · have hz2 : z < 0 ∨ (l.length : Int) ≤ z := by omega
              have TK := Lib.hid (rcopy_no w.heap.size (1 + (a : Int)) lost z (.slice AR l.length cR) (rdata l) wc HS.out.2.2.2.1 (by rw [rdata_len]; omega))
              go_wp2_with fail
              refine TK.out.mono ?_
              rintro e w2 ⟨rfl, hc2⟩
              have C2 := Lib.hid hc2
              have wb2 := hc2.blkNo H_wb0.out
              have s2 := hc2.size
              clear hc2 wb0_c0 wb0_c1 wb0_c2 wb0_f0 wb0_f1 wb0_f2
              have n1 : w.heap.size + 1 < w2.heap.size := by omega
              have n2 : w.heap.size < w2.heap.size := by omega
              have n3 : w.heap.size + 1 ≠ w2.heap.size := by omega
              have n4 : w.heap.size ≠ w2.heap.size := by omega
              have n5 : w.heap.size ≠ w2.heap.size + 1 := by omega
              have n6 : w.heap.size + 1 < w2.heap.size + 1 := by omega
              have n7 : w.heap.size < w2.heap.size + 1 := by omega
              have wb2_c0 := blk_cell wb2 0; have wb2_f0 := blk_free wb2 0; have wb2_c1 := blk_cell wb2 1; have wb2_f1 := blk_free wb2 1; have wb2_c2 := blk_cell wb2 2; have wb2_f2 := blk_free wb2 2; have H_wb2 := Lib.hid wb2; clear wb2
              go_wp2_with fail
              have MM : Hid (Mid w ((((w2.setCell ⟨w.heap.size + 1, 0, none⟩ (.int .i64 (1 + (a : Int)))).setCell ⟨w.heap.size + 1, 1, none⟩ (.slice AR l.length cR)).setCell ⟨w.heap.size + 1, 2, none⟩ (.int .i64 (lost))).alloc (.cells #[.int .i64 (1 + (a : Int)), .slice AR l.length cR, .int .i64 (lost)] 33)) w.heap.size (w.heap.size + 1) (1 + (a : Int)) lost l v (.slice AR l.length cR) (lost) (rdata l)) :=
                Side.mid HS.out (by omega) C2.out ((((Chg.refl w2).setBox H_wb2.out).setBox H_wb2.out).setBox H_wb2.out |>.alloc _) (blk_alloc (blk_set (blk_set (blk_set H_wb2.out 0 _) 1 _) 2 _) _) (HS.out.2.2.2.1.chgNo C2.out)
              clear wb2_c0 wb2_c1 wb2_c2 wb2_f0 wb2_f1 wb2_f2
              generalize (((w2.setCell ⟨w.heap.size + 1, 0, none⟩ (.int .i64 (1 + (a : Int)))).setCell ⟨w.heap.size + 1, 1, none⟩ (.slice AR l.length cR)).setCell ⟨w.heap.size + 1, 2, none⟩ (.int .i64 (lost))).alloc (.cells #[.int .i64 (1 + (a : Int)), .slice AR l.length cR, .int .i64 (lost)] 33) = V at MM ⊢
              refine (copy_no w.heap.size w.heap.size (1 + (a : Int)) lost z l v V MM.out.2.1 (by omega)).mono ?_
              rintro e w4 ⟨rfl, rfl⟩
              go_wp2_with fail
              go_meet
              refine ⟨false, rfl, rfl, l, v, .slice AR l.length cR, lost, MM.out.done rfl, ?_⟩
              show _ ∧ _ ∧ _
              omega
          · by_cases hz : 0 ≤ z ∧ z < l.length
            · obtain ⟨kk, rfl⟩ : ∃ kk : Nat, z = kk := ⟨z.toNat, by omega⟩
              have hkl : kk < l.length := by omega
              obtain ⟨p, hp⟩ : ∃ p, l[kk]? = some p := ⟨_, List.getElem?_eq_getElem hkl⟩
              have HP := Lib.hid hp
              have TK := Lib.hid (rmove_yes w.heap.size (1 + (a : Int)) lost kk (.slice AR l.length cR) (rdata l) (p.to, ⟨p.b.toArray⟩) wc HS.out.2.2.2.1 (rdata_get l kk p hp) (by rw [rdata_len]; omega))
              clear hp
              go_wp2_with fail
              refine TK.out.mono ?_
              rintro e w2 ⟨Lv2, rfl, hr2, hc2⟩
              rw [← rdata_cut] at hr2
              have hl4 : (l.take kk ++ l.drop (kk + 1) ++ [p]).length = l.length := by rw [List.length_append, List.length_append, List.length_take, List.length_drop]; simp; omega
              have h64 : ∀ q ∈ l.take kk ++ l.drop (kk + 1) ++ [p], q.b.length ≤ 6 := by
                intro q hq
                rcases List.mem_append.1 hq with hq | hq
                · rcases List.mem_append.1 hq with h | h
                  · exact HS.out.2.2.2.2 q (List.mem_of_mem_take h)
                  · exact HS.out.2.2.2.2 q (List.mem_of_mem_drop h)
                · obtain rfl : q = p := by simpa using hq
                  exact HS.out.2.2.2.2 q (List.mem_of_getElem? HP.out)
              obtain ⟨R2, hR2⟩ : ∃ R, R = rdata (l.take kk ++ l.drop (kk + 1)) ++ [(p.to, (⟨p.b.toArray⟩ : ByteArray))] := ⟨_, rfl⟩
              rw [← hR2] at hr2
              have hR3 : R2 = rdata (l.take kk ++ l.drop (kk + 1) ++ [p]) := by rw [hR2, rdata_append (l.take kk ++ l.drop (kk + 1)) [p]]; rfl
              clear hR2
              obtain ⟨l2, hl2⟩ : ∃ l2, l2 = l.take kk ++ l.drop (kk + 1) ++ [p] := ⟨_, rfl⟩
              rw [← hl2] at hR3 hl4 h64
              have HL2 := Lib.hid hl2
              have HR2 := Lib.hid hR3
              obtain ⟨A2, c2, rfl, _, _⟩ := Row.slice hr2
              have H64 := Lib.hid h64
              have RR := Lib.hid (RefAt.base hr2 HS.out.1.size)
              have C2 := Lib.hid hc2
              have wb2 := hc2.blkNo H_wb0.out
              have s2 := hc2.size
              clear hr2 hc2 hR3 hl2 h64 wb0_c0 wb0_c1 wb0_c2 wb0_f0 wb0_f1 wb0_f2
              have n1 : w.heap.size + 1 < w2.heap.size := by omega
              have n2 : w.heap.size < w2.heap.size := by omega
              have n3 : w.heap.size + 1 ≠ w2.heap.size := by omega
              have n4 : w.heap.size ≠ w2.heap.size := by omega
              have n5 : w.heap.size ≠ w2.heap.size + 1 := by omega
              have n6 : w.heap.size + 1 < w2.heap.size + 1 := by omega
              have n7 : w.heap.size < w2.heap.size + 1 := by omega
              have wb2_c0 := blk_cell wb2 0; have wb2_f0 := blk_free wb2 0; have wb2_c1 := blk_cell wb2 1; have wb2_f1 := blk_free wb2 1; have wb2_c2 := blk_cell wb2 2; have wb2_f2 := blk_free wb2 2; have H_wb2 := Lib.hid wb2; clear wb2
              go_wp2_with fail
              have MM : Hid (Mid w ((((w2.setCell ⟨w.heap.size + 1, 0, none⟩ (.int .i64 (1 + (a : Int)))).setCell ⟨w.heap.size + 1, 1, none⟩ (.slice A2 R2.length c2)).setCell ⟨w.heap.size + 1, 2, none⟩ (.int .i64 (lost))).alloc (.cells #[.int .i64 (1 + (a : Int)), .slice A2 R2.length c2, .int .i64 (lost)] 33)) w.heap.size (w.heap.size + 1) (1 + (a : Int)) lost l v (.slice A2 R2.length c2) (lost) (R2)) :=
                Side.mid HS.out (by omega) C2.out ((((Chg.refl w2).setBox H_wb2.out).setBox H_wb2.out).setBox H_wb2.out |>.alloc _) (blk_alloc (blk_set (blk_set (blk_set H_wb2.out 0 _) 1 _) 2 _) _) RR.out
              clear wb2_c0 wb2_c1 wb2_c2 wb2_f0 wb2_f1 wb2_f2
              generalize (((w2.setCell ⟨w.heap.size + 1, 0, none⟩ (.int .i64 (1 + (a : Int)))).setCell ⟨w.heap.size + 1, 1, none⟩ (.slice A2 R2.length c2)).setCell ⟨w.heap.size + 1, 2, none⟩ (.int .i64 (lost))).alloc (.cells #[.int .i64 (1 + (a : Int)), .slice A2 R2.length c2, .int .i64 (lost)] 33) = V at MM ⊢
              refine (move_yes w.heap.size w.heap.size (1 + (a : Int)) lost kk l v p V MM.out.2.1 HP.out (by omega) MM.out.1.size).mono ?_
              rintro e w4 ⟨rfl, ⟨v4, hn4⟩, hc4⟩
              rw [← HL2.out] at hn4
              have HS4 := Lib.hid (MM.out.net hc4 hn4 HR2.out H64.out)
              clear hn4 hc4
              go_wp2_with fail
              go_meet
              refine ⟨true, rfl, rfl, l2, v4, .slice A2 R2.length c2, lost, HS4, ?_⟩
              show _ ∧ _ ∧ _
              omega
            · have hz2 : z < 0 ∨ (l.length : Int) ≤ z := by omega
              have TK := Lib.hid (rmove_no w.heap.size (1 + (a : Int)) lost z (.slice AR l.length cR) (rdata l) wc HS.out.2.2.2.1 (by rw [rdata_len]; omega))
              go_wp2_with fail
              refine TK.out.mono ?_
              rintro e w2 ⟨rfl, hc2⟩
              have C2 := Lib.hid hc2
              have wb2 := hc2.blkNo H_wb0.out
              have s2 := hc2.size
              clear hc2 wb0_c0 wb0_c1 wb0_c2 wb0_f0 wb0_f1 wb0_f2
              have n1 : w.heap.size + 1 < w2.heap.size := by omega
              have n2 : w.heap.size < w2.heap.size := by omega
              have n3 : w.heap.size + 1 ≠ w2.heap.size := by omega
              have n4 : w.heap.size ≠ w2.heap.size := by omega
              have n5 : w.heap.size ≠ w2.heap.size + 1 := by omega
              have n6 : w.heap.size + 1 < w2.heap.size + 1 := by omega
              have n7 : w.heap.size < w2.heap.size + 1 := by omega
              have wb2_c0 := blk_cell wb2 0; have wb2_f0 := blk_free wb2 0; have wb2_c1 := blk_cell wb2 1; have wb2_f1 := blk_free wb2 1; have wb2_c2 := blk_cell wb2 2; have wb2_f2 := blk_free wb2 2; have H_wb2 := Lib.hid wb2; clear wb2
              go_wp2_with fail
              have MM : Hid (Mid w ((((w2.setCell ⟨w.heap.size + 1, 0, none⟩ (.int .i64 (1 + (a : Int)))).setCell ⟨w.heap.size + 1, 1, none⟩ (.slice AR l.length cR)).setCell ⟨w.heap.size + 1, 2, none⟩ (.int .i64 (lost))).alloc (.cells #[.int .i64 (1 + (a : Int)), .slice AR l.length cR, .int .i64 (lost)] 33)) w.heap.size (w.heap.size + 1) (1 + (a : Int)) lost l v (.slice AR l.length cR) (lost) (rdata l)) :=
                Side.mid HS.out (by omega) C2.out ((((Chg.refl w2).setBox H_wb2.out).setBox H_wb2.out).setBox H_wb2.out |>.alloc _) (blk_alloc (blk_set (blk_set (blk_set H_wb2.out 0 _) 1 _) 2 _) _) (HS.out.2.2.2.1.chgNo C2.out)
              clear wb2_c0 wb2_c1 wb2_c2 wb2_f0 wb2_f1 wb2_f2
              generalize (((w2.setCell ⟨w.heap.size + 1, 0, none⟩ (.int .i64 (1 + (a : Int)))).setCell ⟨w.heap.size + 1, 1, none⟩ (.slice AR l.length cR)).setCell ⟨w.heap.size + 1, 2, none⟩ (.int .i64 (lost))).alloc (.cells #[.int .i64 (1 + (a : Int)), .slice AR l.length cR, .int .i64 (lost)] 33) = V at MM ⊢
              refine (move_no w.heap.size w.heap.size (1 + (a : Int)) lost z l v V MM.out.2.1 (by omega)).mono ?_
              rintro e w4 ⟨rfl, hc4⟩
              have HS4 := Lib.hid ((MM.out.done rfl).chgNo hc4)
              clear hc4
              go_wp2_with fail
              go_meet
              refine ⟨false, rfl, rfl, l, v, .slice AR l.length cR, lost, HS4, ?_⟩
              show _ ∧ _ ∧ _
              omega
          · by_cases hfull : (l.length : Int) < 1 + (a : Int)
            · have _h := hx
              go_wp2_with fail
              refine (packet_any d.dd d.kk d.to d.ba d.bs.length d.bc _ hto hbl hbc).mono ?_
              rintro e w1 ⟨rfl, hc1⟩
              have S1 := Lib.hid (HS.out.chgNo hc1)
              have B1 : Hid (Bytes w d.ba (d.bs.take 6)) := BY.out.take 6
              have E1 : Hid ((d.bs.take 6).length = min d.bs.length 6) := by rw [List.length_take]; show _ = _; omega
              have wb1 := hc1.blkNo H_wb0.out
              clear hc1 e0 e1 e2 e3 wb0_c0 wb0_c1 wb0_c2 wb0_f0 wb0_f1 wb0_f2
              obtain ⟨bs, hbs⟩ : ∃ bs, bs = d.bs.take 6 := ⟨_, rfl⟩
              rw [← hbs] at B1 E1
              obtain ⟨m, hm⟩ : ∃ m, m = min d.bs.length 6 := ⟨_, rfl⟩
              rw [← hm] at E1 ⊢
              have hm6 : m ≤ 6 := by omega
              have hmbs := E1.out
              clear hbs hm E1
              subst hmbs
              have hbs1 := run_string_bytes (P := Try.prog) (w1.alloc (.cells #[.string (fewS d.to 4), .slice d.ba bs.length d.bc] 36)) 34 9 5 Try.underlying34 Try.underlying5 Try.underlying9 d.ba bs d.bc (B1.out.chgNo (S1.out.1.alloc _))
              have S1' := Lib.hid (S1.out.chgNo ((Chg.refl w1).alloc (.cells #[.string (fewS d.to 4), .slice d.ba bs.length d.bc] 36)))
              have bx1 := blk_new w1 (.cells #[.string (fewS d.to 4), .slice d.ba bs.length d.bc] 36)
              have wb1' := blk_alloc wb1 (.cells #[.string (fewS d.to 4), .slice d.ba bs.length d.bc] 36)
              have BX1 := Lib.hid bx1
              have WB1 := Lib.hid wb1'
              have sz1 := lt_of_blk wb1
              have n11 : w.heap.size + 1 ≠ w1.heap.size := by omega
              have n12 : w.heap.size ≠ w1.heap.size := by omega
              clear bx1 wb1'
              have wb1_c0 := blk_cell wb1 0; have wb1_f0 := blk_free wb1 0; have wb1_c1 := blk_cell wb1 1; have wb1_f1 := blk_free wb1 1; have wb1_c2 := blk_cell wb1 2; have wb1_f2 := blk_free wb1 2; have H_wb1 := Lib.hid wb1; clear wb1
              go_wp2_with fail
              clear wb1_c0 wb1_c1 wb1_c2 wb1_f0 wb1_f1 wb1_f2 hbs1
              refine (rput_room w.heap.size (1 + (a : Int)) lost (.slice AR l.length cR) (rdata l) (fewS d.to 4) ⟨bs.toArray⟩ _ S1'.out.2.2.2.1 (by rw [rdata_len]; omega) (by omega)).mono ?_
              rintro e w2 ⟨Lv2, rfl, hr2, hc2⟩
              obtain ⟨R2, hR2⟩ : ∃ R, R = rdata l ++ [(fewS d.to 4, (⟨bs.toArray⟩ : ByteArray))] := ⟨_, rfl⟩
              rw [← hR2] at hr2
              have HR2 := Lib.hid hR2
              obtain ⟨A2, c2, rfl, _, _⟩ := Row.slice hr2
              have RR := Lib.hid (RefAt.base hr2 S1'.out.1.size)
              have C2 := Lib.hid hc2
              have wb2 := hc2.blkNo WB1.out
              have bx2 := hc2.blkNo BX1.out
              have s2 := hc2.size
              have s3 : w1.heap.size + 1 ≤ w2.heap.size := by simpa using s2
              clear hr2 hR2 hc2 s2
              have n1 : w.heap.size + 1 < w2.heap.size := by omega
              have n2 : w.heap.size < w2.heap.size := by omega
              have n3 : w.heap.size + 1 ≠ w2.heap.size := by omega
              have n4 : w.heap.size ≠ w2.heap.size := by omega
              have n5 : w.heap.size ≠ w2.heap.size + 1 := by omega
              have n6 : w.heap.size + 1 < w2.heap.size + 1 := by omega
              have n7 : w.heap.size < w2.heap.size + 1 := by omega
              have n13 : w1.heap.size ≠ w2.heap.size := by omega
              have n14 : w1.heap.size < w2.heap.size := by omega
              have wb2_c0 := blk_cell wb2 0; have wb2_f0 := blk_free wb2 0; have wb2_c1 := blk_cell wb2 1; have wb2_f1 := blk_free wb2 1; have wb2_c2 := blk_cell wb2 2; have wb2_f2 := blk_free wb2 2; have H_wb2 := Lib.hid wb2; clear wb2
              have bx2_c0 := blk_cell bx2 0; have bx2_f0 := blk_free bx2 0; have bx2_c1 := blk_cell bx2 1; have bx2_f1 := blk_free bx2 1; have H_bx2 := Lib.hid bx2; clear bx2
              go_wp2_with fail
              have MM : Hid (Mid w ((((w2.setCell ⟨w.heap.size + 1, 0, none⟩ (.int .i64 (1 + (a : Int)))).setCell ⟨w.heap.size + 1, 1, none⟩ (.slice A2 R2.length c2)).setCell ⟨w.heap.size + 1, 2, none⟩ (.int .i64 (lost))).alloc (.cells #[.int .i64 (1 + (a : Int)), .slice A2 R2.length c2, .int .i64 (lost)] 33)) w.heap.size (w.heap.size + 1) (1 + (a : Int)) lost l v (.slice A2 R2.length c2) (lost) (R2)) :=
                Side.mid S1'.out (by omega) C2.out ((((Chg.refl w2).setBox H_wb2.out).setBox H_wb2.out).setBox H_wb2.out |>.alloc _) (blk_alloc (blk_set (blk_set (blk_set H_wb2.out 0 _) 1 _) 2 _) _) RR.out
              clear wb2_c0 wb2_c1 wb2_c2 wb2_f0 wb2_f1 wb2_f2 bx2_c0 bx2_c1 bx2_f0 bx2_f1
              generalize (((w2.setCell ⟨w.heap.size + 1, 0, none⟩ (.int .i64 (1 + (a : Int)))).setCell ⟨w.heap.size + 1, 1, none⟩ (.slice A2 R2.length c2)).setCell ⟨w.heap.size + 1, 2, none⟩ (.int .i64 (lost))).alloc (.cells #[.int .i64 (1 + (a : Int)), .slice A2 R2.length c2, .int .i64 (lost)] 33) = V at MM ⊢
              refine (put_yes w.heap.size w.heap.size (1 + (a : Int)) lost l v (fewS d.to 4) d.ba d.bc bs V MM.out.2.1 (B1.out.chgNo MM.out.1) (by omega) (by omega) (by omega)).mono ?_
              rintro e w4 ⟨rfl, bb, v4, hbb, hn4, hc4⟩
              have HS4 := Lib.hid (MM.out.net hc4 hn4 (by rw [HR2.out, rdata_append]; rfl) (fun q hq => by
                rcases List.mem_append.1 hq with h | h
                · exact HS.out.2.2.2.2 q h
                · obtain rfl : q = ⟨fewS d.to 4, bs, bb⟩ := by simpa using h
                  exact hm6))
              clear hn4 hc4
              go_wp2_with fail
              go_meet
              refine ⟨true, rfl, rfl, l ++ [⟨fewS d.to 4, bs, bb⟩], v4, .slice A2 R2.length c2, lost, HS4, ?_⟩
              show _ ∧ _ ∧ _
              rw [List.length_append, List.length_singleton]
              omega
            · have _h := hx
              go_wp2_with fail
              refine (packet_any d.dd d.kk d.to d.ba d.bs.length d.bc _ hto hbl hbc).mono ?_
              rintro e w1 ⟨rfl, hc1⟩
              have S1 := Lib.hid (HS.out.chgNo hc1)
              have B1 : Hid (Bytes w d.ba (d.bs.take 6)) := BY.out.take 6
              have E1 : Hid ((d.bs.take 6).length = min d.bs.length 6) := by rw [List.length_take]; show _ = _; omega
              have wb1 := hc1.blkNo H_wb0.out
              clear hc1 e0 e1 e2 e3 wb0_c0 wb0_c1 wb0_c2 wb0_f0 wb0_f1 wb0_f2
              obtain ⟨bs, hbs⟩ : ∃ bs, bs = d.bs.take 6 := ⟨_, rfl⟩
              rw [← hbs] at B1 E1
              obtain ⟨m, hm⟩ : ∃ m, m = min d.bs.length 6 := ⟨_, rfl⟩
              rw [← hm] at E1 ⊢
              have hm6 : m ≤ 6 := by omega
              have hmbs := E1.out
              clear hbs hm E1
              subst hmbs
              have hbs1 := run_string_bytes (P := Try.prog) (w1.alloc (.cells #[.string (fewS d.to 4), .slice d.ba bs.length d.bc] 36)) 34 9 5 Try.underlying34 Try.underlying5 Try.underlying9 d.ba bs d.bc (B1.out.chgNo (S1.out.1.alloc _))
              have S1' := Lib.hid (S1.out.chgNo ((Chg.refl w1).alloc (.cells #[.string (fewS d.to 4), .slice d.ba bs.length d.bc] 36)))
              have bx1 := blk_new w1 (.cells #[.string (fewS d.to 4), .slice d.ba bs.length d.bc] 36)
              have wb1' := blk_alloc wb1 (.cells #[.string (fewS d.to 4), .slice d.ba bs.length d.bc] 36)
              have BX1 := Lib.hid bx1
              have WB1 := Lib.hid wb1'
              have sz1 := lt_of_blk wb1
              have n11 : w.heap.size + 1 ≠ w1.heap.size := by omega
              have n12 : w.heap.size ≠ w1.heap.size := by omega
              clear bx1 wb1'
              have wb1_c0 := blk_cell wb1 0; have wb1_f0 := blk_free wb1 0; have wb1_c1 := blk_cell wb1 1; have wb1_f1 := blk_free wb1 1; have wb1_c2 := blk_cell wb1 2; have wb1_f2 := blk_free wb1 2; have H_wb1 := Lib.hid wb1; clear wb1
              go_wp2_with fail
              clear wb1_c0 wb1_c1 wb1_c2 wb1_f0 wb1_f1 wb1_f2 hbs1
              refine (rput_full w.heap.size (1 + (a : Int)) lost (.slice AR l.length cR) (rdata l) (fewS d.to 4) ⟨bs.toArray⟩ _ S1'.out.2.2.2.1 (by rw [rdata_len]; omega) (by omega) (by omega)).mono ?_
              rintro e w2 ⟨rfl, hc2⟩
              have C2 := Lib.hid hc2
              have wb2 := hc2.blkNo WB1.out
              have bx2 := hc2.blkNo BX1.out
              have s2 := hc2.size
              have s3 : w1.heap.size + 1 ≤ w2.heap.size := by simpa using s2
              clear hc2 s2
              have n1 : w.heap.size + 1 < w2.heap.size := by omega
              have n2 : w.heap.size < w2.heap.size := by omega
              have n3 : w.heap.size + 1 ≠ w2.heap.size := by omega
              have n4 : w.heap.size ≠ w2.heap.size := by omega
              have n5 : w.heap.size ≠ w2.heap.size + 1 := by omega
              have n6 : w.heap.size + 1 < w2.heap.size + 1 := by omega
              have n7 : w.heap.size < w2.heap.size + 1 := by omega
              have n13 : w1.heap.size ≠ w2.heap.size := by omega
              have n14 : w1.heap.size < w2.heap.size := by omega
              have wb2_c0 := blk_cell wb2 0; have wb2_f0 := blk_free wb2 0; have wb2_c1 := blk_cell wb2 1; have wb2_f1 := blk_free wb2 1; have wb2_c2 := blk_cell wb2 2; have wb2_f2 := blk_free wb2 2; have H_wb2 := Lib.hid wb2; clear wb2
              have bx2_c0 := blk_cell bx2 0; have bx2_f0 := blk_free bx2 0; have bx2_c1 := blk_cell bx2 1; have bx2_f1 := blk_free bx2 1; have H_bx2 := Lib.hid bx2; clear bx2
              go_wp2_with fail
              have MM : Hid (Mid w ((((w2.setCell ⟨w.heap.size + 1, 0, none⟩ (.int .i64 (1 + (a : Int)))).setCell ⟨w.heap.size + 1, 1, none⟩ (.slice AR l.length cR)).setCell ⟨w.heap.size + 1, 2, none⟩ (.int .i64 (lost + 1))).alloc (.cells #[.int .i64 (1 + (a : Int)), .slice AR l.length cR, .int .i64 (lost + 1)] 33)) w.heap.size (w.heap.size + 1) (1 + (a : Int)) lost l v (.slice AR l.length cR) (lost + 1) (rdata l)) :=
                Side.mid S1'.out (by omega) C2.out ((((Chg.refl w2).setBox H_wb2.out).setBox H_wb2.out).setBox H_wb2.out |>.alloc _) (blk_alloc (blk_set (blk_set (blk_set H_wb2.out 0 _) 1 _) 2 _) _) (S1'.out.2.2.2.1.chgNo C2.out)
              clear wb2_c0 wb2_c1 wb2_c2 wb2_f0 wb2_f1 wb2_f2 bx2_c0 bx2_c1 bx2_f0 bx2_f1
              generalize (((w2.setCell ⟨w.heap.size + 1, 0, none⟩ (.int .i64 (1 + (a : Int)))).setCell ⟨w.heap.size + 1, 1, none⟩ (.slice AR l.length cR)).setCell ⟨w.heap.size + 1, 2, none⟩ (.int .i64 (lost + 1))).alloc (.cells #[.int .i64 (1 + (a : Int)), .slice AR l.length cR, .int .i64 (lost + 1)] 33) = V at MM ⊢
              refine (put_no w.heap.size w.heap.size (1 + (a : Int)) lost l v (fewS d.to 4) d.ba bs.length d.bc V MM.out.2.1 (by omega) (by omega) (by omega)).mono ?_
              rintro e w4 ⟨rfl, hn4, hc4⟩
              have HS4 := Lib.hid (MM.out.net hc4 hn4 rfl HS.out.2.2.2.2)
              clear hn4 hc4
              go_wp2_with fail
              go_meet
              refine ⟨false, rfl, rfl, l, v, .slice AR l.length cR, lost + 1, HS4, ?_⟩
              show _ ∧ _ ∧ _
              omega
        case rest =>
          obtain ⟨t, rfl, rfl, l, v, Lv, lost, HS, HL⟩ := hcut
          obtain ⟨AR, cR, rfl, _, _⟩ := Row.slice HS.out.2.2.2.1
          rw [rdata_len] at HS
          have hl6 := HL.out
          go_wp2_with fail
          refine wp_region_sig 24 (fun w' => Chg NoM wc w') [.P [0, 1, 2, 3, 4, 6], .L [7], .K 5, .K 8, .P [9, 10, 11, 12, 14], .L [15], .P [16], .K 13, .P [17, 18, 19, 20, 22], .L [23], .K 21, .N [24, 25]] rfl (fun _ _ d _ _ h => by cases d <;> exact h) (fun _ h => h) (by kernel_rfl) ((Chg.refl _).drew) ?_
          apply sigP (Nat.le_refl _)
          · intro w'
            (simp only [wpPl, pickOps, List.filterMap_cons, List.filterMap_nil, List.getElem?_toArray, List.getElem?_cons_zero, List.getElem?_cons_succ]; iterate 6 (go_wp2; refine ⟨trivial, ?_⟩)); rfl
          apply sigL (by simp)
          · intro w' hS
            have y0 := blk_cell (hS.blkNo HS.out.2.2.1) 1
            (simp only [wpPl, pickOps, List.filterMap_cons, List.filterMap_nil, List.getElem?_toArray, List.getElem?_cons_zero, List.getElem?_cons_succ]; iterate 1 (go_wp2; refine ⟨trivial, ?_⟩)); rfl
          apply sigK
          simp only [pickOps, List.filterMap_cons, List.filterMap_nil, List.getElem?_toArray, List.getElem?_cons_zero, List.getElem?_cons_succ]
          go_wp2_with fail
          have HS1 : Hid (Side w wc.drew w.heap.size (w.heap.size + 1) (1 + (a : Int)) lost l v (.slice AR l.length cR)) := HS.out.chgNo (Chg.refl wc).drew
          refine (all_any w.heap.size w.heap.size (1 + (a : Int)) lost l v wc.drew HS1.out.2.1 (by omega) (fun p hp => Nat.le_trans (HS1.out.2.2.2.2 p hp) (by omega))).mono ?_
          rintro e w5 ⟨v5, L, rfl, hL, hd, hc5⟩
          have S5 := Lib.hid ((Chg.refl wc).drew.trans hc5)
          have HS5 := Lib.hid (HS1.out.chgNo hc5)
          have LK := Lib.hid (like_true _ _ v5 (.slice AR l.length cR) L w5 hL.1 hL.2.1 (by rw [rdata_pdata hd]; exact HS5.out.2.2.2.1) (fun p hp => by
            have h1 : (p.to, p.b) ∈ pdata L := List.mem_map.2 ⟨p, hp, rfl⟩
            rw [hd] at h1
            obtain ⟨q, hq, e⟩ := List.mem_map.1 h1
            have := HS5.out.2.2.2.2 q hq
            simp only [Prod.mk.injEq] at e
            rw [← e.2]
            omega))
          clear hL hd hc5
          go_wp2_with fail
          refine ⟨S5.out, ?_⟩
          apply sigK
          simp only [pickOps, List.filterMap_cons, List.filterMap_nil, List.getElem?_toArray, List.getElem?_cons_zero, List.getElem?_cons_succ]
          go_wp2_with fail
          refine LK.out.mono ?_
          rintro e w6 ⟨rfl, hc6⟩
          have S6 := Lib.hid (S5.out.trans hc6)
          have HS6 := Lib.hid (HS5.out.chgNo hc6)
          clear hc6
          go_wp2_with fail
          refine ⟨S6.out, ?_⟩
          apply sigP (by simp)
          · intro w'
            (simp only [wpPl, pickOps, List.filterMap_cons, List.filterMap_nil, List.getElem?_toArray, List.getElem?_cons_zero, List.getElem?_cons_succ]; iterate 5 (go_wp2; refine ⟨trivial, ?_⟩)); rfl
          apply sigL (by simp)
          · intro w' hS
            have y0 := blk_cell (hS.blkNo HS.out.2.2.1) 1
            (simp only [wpPl, pickOps, List.filterMap_cons, List.filterMap_nil, List.getElem?_toArray, List.getElem?_cons_zero, List.getElem?_cons_succ]; iterate 1 (go_wp2; refine ⟨trivial, ?_⟩)); rfl
          apply sigP (by simp)
          · intro w'
            (simp only [wpPl, pickOps, List.filterMap_cons, List.filterMap_nil, List.getElem?_toArray, List.getElem?_cons_zero, List.getElem?_cons_succ]; iterate 1 (go_wp2; refine ⟨trivial, ?_⟩)); rfl
          apply sigK
          simp only [pickOps, List.filterMap_cons, List.filterMap_nil, List.getElem?_toArray, List.getElem?_cons_zero, List.getElem?_cons_succ]
          go_wp2_with fail
          refine (len_any _ _ _ _ _ _ w6 HS6.out.2.1).mono ?_
          rintro e w7 ⟨rfl, rfl⟩
          go_wp2_with fail
          refine ⟨S6.out, ?_⟩
          apply sigP (by simp)
          · intro w'
            (simp only [wpPl, pickOps, List.filterMap_cons, List.filterMap_nil, List.getElem?_toArray, List.getElem?_cons_zero, List.getElem?_cons_succ]; iterate 5 (go_wp2; refine ⟨trivial, ?_⟩)); rfl
          apply sigL (by simp)
          · intro w' hS
            have y0 := blk_cell (hS.blkNo HS.out.2.2.1) 2
            (simp only [wpPl, pickOps, List.filterMap_cons, List.filterMap_nil, List.getElem?_toArray, List.getElem?_cons_zero, List.getElem?_cons_succ]; iterate 1 (go_wp2; refine ⟨trivial, ?_⟩)); rfl
          apply sigK
          simp only [pickOps, List.filterMap_cons, List.filterMap_nil, List.getElem?_toArray, List.getElem?_cons_zero, List.getElem?_cons_succ]
          go_wp2_with fail
          refine (lost_any _ _ _ _ _ _ w6 HS6.out.2.1).mono ?_
          rintro e w7 ⟨rfl, rfl⟩
          go_wp2_with fail
          refine ⟨S6.out, ?_⟩
          apply sigN
          simp only [pickOps, List.filterMap_cons, List.filterMap_nil, List.getElem?_toArray, List.getElem?_cons_zero, List.getElem?_cons_succ]
          go_wp2_with fail
          apply sigEnd
          go_wp2_with fail
          exact ⟨⟨k + 1, by omega, by omega, by go_num, l, v, _, lost, HS6, by have := HL.out; exact ⟨by omega, by omega, by omega⟩⟩, by simp [intOf]; omega⟩
    · have hex : (¬ k < ds.length) ∨ (k < ds.length ∧ ¬ k < 20) := by omega
      rcases hex with hx | ⟨hx1, hx2⟩
      all_goals
        go_wp2_with fail
        refine (lives_true _).mono ?_
        rintro e w5 ⟨rfl, hc5⟩
        go_wp2_with fail
        go_ret
        exact ⟨rfl, below_of_chg (HS.out.1.trans hc5)⟩
end Go.Proofs.Ytmkjonfdeolihaa
