/- The walk of NetTakes. -/
import Derived.Test.YtmkjonfdeolihaaPack
import Derived.Test.YtmkjonfdeolihaaOpenB
import Derived.Test.YtmkjonfdeolihaaNewsW
namespace Go.Proofs.Ytmkjonfdeolihaa
set_option linter.unusedVariables false
set_option linter.unusedSimpArgs false
open Go.RowKit

structure Dd where
  dd : Int
  kk : Int
  to : ByteArray
  ba : Option Addr
  bs : List UInt8
  bc : Nat
deriving Inhabited
def DeedR (w : World) (d : Dd) (c : List Value) : Prop :=
  c = [.int .i64 d.dd, .int .i64 d.kk, .string d.to, .slice d.ba d.bs.length d.bc] ∧ d.bs.length ≤ d.bc ∧ d.bc ≤ 9223372036854775807 ∧ Bytes w d.ba d.bs ∧ d.to.size ≤ 9223372036854775807 ∧
    -9223372036854775808 ≤ d.dd ∧ d.dd ≤ 9223372036854775807 ∧ -9223372036854775808 ≤ d.kk ∧ d.kk ≤ 9223372036854775807
/-- The deeds, as a walk asks for them: element k's cells and its bytes, in any later world. -/
theorem deed_at {w wr : World} {A : Option Addr} {ds : List Dd} (h : RowsAt DeedR 4 w A ds) (hc : Chg NoM w wr) (k : Nat) (hk : k < ds.length) :
    ∃ b off d, A = some ⟨b, off, none⟩ ∧ ds[k]? = some d ∧ Bytes w d.ba d.bs ∧ b < w.heap.size ∧ wr.cell? ⟨b, off + k * 4, none⟩ = some (.int .i64 d.dd) ∧ wr.cell? ⟨b, off + k * 4 + 1, none⟩ = some (.int .i64 d.kk) ∧ wr.cell? ⟨b, off + k * 4 + 2, none⟩ = some (.string d.to) ∧
      wr.cell? ⟨b, off + k * 4 + 3, none⟩ = some (.slice d.ba d.bs.length d.bc) ∧ Bytes wr d.ba d.bs ∧ d.bs.length ≤ d.bc ∧ d.bc ≤ 9223372036854775807 ∧ d.to.size ≤ 9223372036854775807 ∧ -9223372036854775808 ≤ d.dd ∧ d.dd ≤ 9223372036854775807 ∧ -9223372036854775808 ≤ d.kk ∧ d.kk ≤ 9223372036854775807 := by
  obtain ⟨b, off, hA, hall⟩ := h.2.2 (by omega)
  obtain ⟨c, ⟨hcs, h1, h2, h3, h4, h5⟩, _, hcell⟩ := hall k _ (List.getElem?_eq_getElem hk)
  subst hcs
  have c0 := hcell 0 _ rfl
  exact ⟨b, off, ds[k], hA, List.getElem?_eq_getElem hk, h3, World.block_lt_of_cell? w _ c0, hc.cellNo c0, hc.cellNo (hcell 1 _ rfl), hc.cellNo (hcell 2 _ rfl), hc.cellNo (hcell 3 _ rfl), h3.chg hc (fun _ _ _ _ h => h), h1, h2, h4, h5⟩
theorem Bytes.take {w : World} {A : Option Addr} {bs : List UInt8} (h : Bytes w A bs) (k : Nat) : Bytes w A (bs.take k) := by
  refine ⟨by have := h.1; rw [List.length_take]; omega, fun hp => ?_⟩
  rw [List.length_take] at hp
  obtain ⟨ad, e, hc⟩ := h.2 (by omega)
  refine ⟨ad, e, fun j hj => ?_⟩
  rw [List.length_take] at hj
  rw [hc j (by omega)]
  have hjk : j < k := by omega
  simp [List.getD_eq_getElem?_getD, hjk]

def rdata (l : List Pk) : List (ByteArray × ByteArray) := l.map fun p => (p.to, ⟨p.b.toArray⟩)
theorem rdata_len (l : List Pk) : (rdata l).length = l.length := by simp [rdata]
theorem rdata_append (l m : List Pk) : rdata (l ++ m) = rdata l ++ rdata m := by simp [rdata]
theorem rdata_cut (l : List Pk) (k : Nat) : rdata (l.take k ++ l.drop (k + 1)) = (rdata l).take k ++ (rdata l).drop (k + 1) := by simp [rdata, List.map_take, List.map_drop]
theorem rdata_get (l : List Pk) (k : Nat) (p : Pk) (h : l[k]? = some p) : (rdata l)[k]? = some (p.to, ⟨p.b.toArray⟩) := by simp [rdata, h]

/-- The net and its reference side by side. -/
def Side (w0 wr : World) (nb wb : Nat) (most lost : Int) (l : List Pk) (v Lv : Value) : Prop :=
  Chg NoM w0 wr ∧ NetAt wr w0.heap.size nb most l lost v ∧ wr.heap[wb]? = some (.cells #[.int .i64 most, Lv, .int .i64 lost] 33 (0, 0)) ∧ RefAt wr w0.heap.size Lv (rdata l) ∧ (∀ p ∈ l, p.b.length ≤ 6)
theorem Side.chgNo {w0 wr w' : World} {nb wb : Nat} {most lost : Int} {l : List Pk} {v Lv : Value} (h : Side w0 wr nb wb most lost l v Lv) (hc : Chg NoM wr w') : Side w0 w' nb wb most lost l v Lv :=
  ⟨h.1.trans hc, h.2.1.chgNo hc, hc.blkNo h.2.2.1, h.2.2.2.1.chgNo hc, h.2.2.2.2⟩

/-- Behind a Put: the reference's half is as it was. -/
theorem Side.put {w0 wr w' : World} {nb wb : Nat} {most lost : Int} {l : List Pk} {v Lv : Value} (h : Side w0 wr nb wb most lost l v Lv) (hc : Chg (NetX nb v) wr w') :
    Chg NoM w0 w' ∧ w'.heap[wb]? = some (.cells #[.int .i64 most, Lv, .int .i64 lost] 33 (0, 0)) ∧ RefAt w' w0.heap.size Lv (rdata l) := by
  refine ⟨h.1.thenAll hc (NetX.new h.2.1), hc.block _ _ h.2.2.1 (NetX.ne h.2.1 h.2.2.1 (by decide) (by decide)), Row.chg h.2.2.2.1 hc ?_⟩
  rintro g c f hg _ (e | e)
  · exact Row.own_ne h.2.2.2.1 h.2.1.2.1 (by decide) (by rw [hg]; exact congrArg some e)
  · exact RowM.ne (by decide) e

/-- The reference's struct is written anew, at another world's box. -/
theorem Side.set {w0 w3 w4 w5 : World} {nb wb : Nat} {most lost lost' : Int} {l l' : List Pk} {v Lv Lv' : Value} {cs : Array Value}
    (hc3 : Chg NoM w0 w3) (hn : NetAt w3 w0.heap.size nb most l' lost' v) (hc4 : Chg NoM w3 w4) (hb : w4.heap[wb]? = some (.cells cs 33 (0, 0))) (hwb : w0.heap.size ≤ wb)
    (hc5 : Chg (BoxM wb 33) w4 w5) (hb5 : w5.heap[wb]? = some (.cells #[.int .i64 most, Lv', .int .i64 lost'] 33 (0, 0))) (hr : RefAt w4 w0.heap.size Lv' (rdata l')) (h6 : ∀ p ∈ l', p.b.length ≤ 6) : Side w0 w5 nb wb most lost' l' v Lv' :=
  ⟨(hc3.trans hc4).thenAll hc5 (fun i o h => by rw [h.1]; exact hwb), (hn.chgNo hc4).chg hc5 (fun _ _ _ _ => BoxM.ne (by decide)) (fun _ _ _ _ => BoxM.ne (by decide)) (fun _ _ _ _ => BoxM.ne (by decide)), hb5,
    Row.chg hr hc5 (fun _ _ _ _ _ => BoxM.ne (by decide)), h6⟩

set_option maxRecDepth 20000 in
set_option maxHeartbeats 4000000 in
theorem takes_walk (A : Option Addr) (ds : List Dd) (c : Nat) (A2 : Option Addr) (ks : List Int) (c2 : Nat) (w : World) (hds : RowsAt DeedR 4 w A ds) (hks : IntsAt w A2 ks) :
    Calls Try.prog 4 #[.slice A ds.length c, .slice A2 ks.length c2] w fun e w' => e = .returned (.bool true) ∧ Below w.heap.size w w' := by
  have HD := Lib.hid hds
  have HK := Lib.hid hks
  have dl := hds.1
  have kl := hks.2.1
  clear hds hks
  go_enter Try.func4, Try.ntmps4
  go_wp2_with fail
  refine (new_yes 9 _ (by omega) (by omega)).mono ?_
  rintro e w1 ⟨rfl, hn1, hs1, hc1⟩
  have N1 := Lib.hid hn1
  have C1 := Lib.hid hc1
  have S1 := hs1
  clear hn1 hc1 hs1
  go_wp2_with fail
  have HS0 : Hid (Side w (w1.alloc (.cells #[.int .i64 9, .slice none 0 0, .int .i64 0] 33)) w.heap.size (w.heap.size + 1) 9 0 [] (.slice none 0 0) (.slice none 0 0)) :=
    ⟨C1.out.alloc _, N1.out.chgNo ((Chg.refl w1).alloc _), by rw [← S1]; exact blk_new w1 _, Row.nil _ _ _ _, fun p hp => by cases hp⟩
  clear S1
  go_loopw [8] (fun i wr => ∃ k : Nat, k ≤ ds.length ∧ k ≤ 8 ∧ i = .int .i64 k ∧ ∃ l v Lv, Hid (Side w wr w.heap.size (w.heap.size + 1) 9 0 l v Lv) ∧ Hid (l.length = k)) (fun i _ => 8 - (intOf i).toNat)
  case atStart => exact ⟨0, by omega, by omega, rfl, [], _, _, HS0, rfl⟩
  case round =>
    obtain ⟨k, hk1, hk2, rfl, l, v, Lv, HS, HL⟩ := hrel
    by_cases hlt : k < ds.length ∧ k < 8
    · obtain ⟨ha, hb⟩ := hlt
      obtain ⟨b, off, d, hA, hd, hby0, hbw, e0, e1, e2, e3, hby, hbl, hbc, hto, -, -, -, -⟩ := deed_at HD.out HS.out.1 k ha
      cases hA
      have BY := Lib.hid hby0
      clear hby0
      have i0 : (0 : Int) ≤ (k : Int) := by omega
      have i1 : (k : Int) < (ds.length : Int) := by omega
      clear hd hby
      go_wp2_with fail
      refine (packet_any d.dd d.kk d.to d.ba d.bs.length d.bc _ hto hbl hbc).mono ?_
      rintro e w2 ⟨rfl, hc2⟩
      have S2 := Lib.hid (HS.out.chgNo hc2)
      have B2 : Hid (Bytes w d.ba (d.bs.take 6)) := BY.out.take 6
      have E2 : Hid ((d.bs.take 6).length = min d.bs.length 6) := by rw [List.length_take]; show _ = _; omega
      clear hc2 e0 e1 e2 e3
      obtain ⟨bs, hbs⟩ : ∃ bs, bs = d.bs.take 6 := ⟨_, rfl⟩
      rw [← hbs] at B2 E2
      obtain ⟨m, hm⟩ : ∃ m, m = min d.bs.length 6 := ⟨_, rfl⟩
      rw [← hm] at E2 ⊢
      have hm6 : m ≤ 6 := by omega
      have hmbs := E2.out
      clear hbs hm E2
      subst hmbs
      go_wp2_with fail
      have L1 := HL.out
      have SA := Lib.hid (S2.out.chgNo ((Chg.refl w2).alloc (.cells #[.string (fewS d.to 4), .slice d.ba bs.length d.bc] 36)))
      have BXA := Lib.hid (blk_new w2 (.cells #[.string (fewS d.to 4), .slice d.ba bs.length d.bc] 36))
      refine (put_yes w.heap.size w.heap.size 9 0 l v (fewS d.to 4) d.ba d.bc bs _ SA.out.2.1 (B2.out.chgNo SA.out.1) (by omega) (by omega) (by omega)).mono ?_
      rintro e w3 ⟨rfl, bb, v3, hbb, hn3, hc3⟩
      obtain ⟨p1, p2, p3⟩ := SA.out.put hc3
      have N3 := Lib.hid hn3
      have C3 := Lib.hid p1
      have W3 := Lib.hid p2
      have R3 := Lib.hid p3
      have bx3 := hc3.block _ _ BXA.out (NetX.old S2.out.2.1 (Nat.le_refl _))
      have hbs3 := run_string_bytes (P := Try.prog) w3 34 9 5 Try.underlying34 Try.underlying5 Try.underlying9 d.ba bs d.bc (B2.out.chgNo p1)
      have wb3 := p2
      clear hn3 hc3 p1 p2 p3 L1
      have bx3_c0 := blk_cell bx3 0; have bx3_f0 := blk_free bx3 0; have bx3_c1 := blk_cell bx3 1; have bx3_f1 := blk_free bx3 1; have H_bx3 := Lib.hid bx3; clear bx3
      have wb3_c0 := blk_cell wb3 0; have wb3_f0 := blk_free wb3 0; have wb3_c1 := blk_cell wb3 1; have wb3_f1 := blk_free wb3 1; have wb3_c2 := blk_cell wb3 2; have wb3_f2 := blk_free wb3 2; have H_wb3 := Lib.hid wb3; clear wb3
      go_wp2_with fail
      have L2 := HL.out
      refine (rput_room w.heap.size 9 0 Lv (rdata l) (fewS d.to 4) ⟨bs.toArray⟩ _ R3.out (by rw [rdata_len]; omega) (by omega)).mono ?_
      rintro e w4 ⟨Lv4, rfl, hr4, hc4⟩
      obtain ⟨R4, hR4⟩ : ∃ R, R = rdata l ++ [(fewS d.to 4, (⟨bs.toArray⟩ : ByteArray))] := ⟨_, rfl⟩
      rw [← hR4] at hr4
      have HR4 := Lib.hid hR4
      obtain ⟨A4, c4, rfl, _, _⟩ := Row.slice hr4
      have RR4 := Lib.hid hr4
      have C4 := Lib.hid hc4
      have s4 := hc4.size
      have s3 : w2.heap.size + 1 ≤ w3.heap.size := by
        have := lt_of_blk H_bx3.out
        omega
      have wbl : w.heap.size + 1 < w3.heap.size := lt_of_blk H_wb3.out
      have wb4 := hc4.blkNo H_wb3.out
      clear L2 hr4 hc4 hR4 bx3_c0 bx3_c1 bx3_f0 bx3_f1 wb3_c0 wb3_c1 wb3_c2 wb3_f0 wb3_f1 wb3_f2 hbs3
      have wne : w.heap.size + 1 ≠ w4.heap.size := by omega
      have wbl4 : w.heap.size + 1 < w4.heap.size := by omega
      have wb4_c0 := blk_cell wb4 0; have wb4_f0 := blk_free wb4 0; have wb4_c1 := blk_cell wb4 1; have wb4_f1 := blk_free wb4 1; have wb4_c2 := blk_cell wb4 2; have wb4_f2 := blk_free wb4 2; have H_wb4 := Lib.hid wb4; clear wb4
      go_wp2_with fail
      have hsz3 := C3.out.size
      have hR : rdata (l ++ [⟨fewS d.to 4, bs, bb⟩]) = R4 := by rw [HR4.out, rdata_append]; rfl
      refine ⟨⟨k + 1, by omega, by omega, by go_num, l ++ [⟨fewS d.to 4, bs, bb⟩], v3, .slice A4 R4.length c4, ?_, ?_⟩, by simp [intOf]; omega⟩
      · refine Side.set (Lv := Lv) (lost := 0) (l := l) C3.out N3.out C4.out H_wb4.out (by omega) ((((Chg.refl _).setBox H_wb4.out).setBox H_wb4.out).setBox H_wb4.out |>.alloc _) ?_ ?_ ?_
        · exact blk_alloc (blk_set (blk_set (blk_set H_wb4.out 0 _) 1 _) 2 _) _
        · rw [hR]; exact RefAt.base RR4.out hsz3
        · intro p hp
          rcases List.mem_append.1 hp with h | h
          · exact HS.out.2.2.2.2 p h
          · obtain rfl : p = ⟨fewS d.to 4, bs, bb⟩ := by simpa using h
            exact hm6
      · rw [List.length_append, HL.out]; rfl
    · have hex : (¬ k < ds.length) ∨ (k < ds.length ∧ ¬ k < 8) := by omega
      have L0 := HL.out
      have m8 : l.length ≤ 8 := by omega
      clear L0
      rcases hex with hx | ⟨hx1, hx2⟩
      all_goals
        go_wp2_with fail
        refine (len_any w.heap.size w.heap.size 9 0 l v _ HS.out.2.1).mono ?_
        rintro e w2 ⟨rfl, rfl⟩
        go_wp2_with fail
        obtain ⟨m, hm⟩ : ∃ m, m = l.length := ⟨_, rfl⟩
        rw [← hm] at m8 ⊢
        have HM := Lib.hid hm
        clear hm
        go_loopw [13] (fun i wr => ∃ j : Nat, j ≤ m ∧ i = .int .i64 j ∧ ∃ l v Lv, Hid (Side w wr w.heap.size (w.heap.size + 1) 9 0 l v Lv) ∧ Hid (l.length + j = m)) (fun i _ => m - (intOf i).toNat)
        case atStart => exact ⟨0, by omega, rfl, l, v, Lv, HS, HM.out.symm⟩
        clear HS HL HM
        case round =>
          obtain ⟨j, hj, rfl, l, v, Lv, HS, HL⟩ := hrel
          by_cases hlt : j < m
          · have L1 := HL.out
            have i0 : (0 : Int) ≤ (j : Int) := by omega
            by_cases hjk : j < ks.length
            · obtain ⟨b2, off2, hA2, hk2⟩ := HK.out.2.2 (by omega)
              cases hA2
              have hz := hk2 j _ (List.getElem?_eq_getElem hjk)
              have hz2 := HK.out.1 _ (List.getElem_mem hjk)
              obtain ⟨z, hzz⟩ : ∃ z, z = ks[j] := ⟨_, rfl⟩
              rw [← hzz] at hz hz2
              have e0 := HS.out.1.cellNo hz
              have i1 : (j : Int) < (ks.length : Int) := by omega
              have i2 : min (j : Int) ((ks.length : Int) - 1) = (j : Int) := by omega
              obtain ⟨z1, z2⟩ := hz2
              clear hz hzz hk2
              go_wp2_with fail
              obtain ⟨g1, g2⟩ := aroundI_bd z ((m : Int) - j) (by omega)
              refine (around_any z ((m : Int) - j) _ z1 z2 (by omega) (by omega)).mono ?_
              rintro e w2 ⟨rfl, rfl⟩
              obtain ⟨kk, hkk⟩ : ∃ kk : Nat, aroundI z ((m : Int) - j) = kk := ⟨(aroundI z ((m : Int) - j)).toNat, by omega⟩
              rw [hkk] at g2 ⊢
              clear g1 hkk e0 z1 z2
              go_wp2_with fail
              have hkl : kk < l.length := by omega
              obtain ⟨p, hp⟩ : ∃ p, l[kk]? = some p := ⟨_, List.getElem?_eq_getElem hkl⟩
              have HP := Lib.hid hp
              have PB := Lib.hid (HS.out.2.1.2.2.2 p (List.mem_of_getElem? hp))
              have P6 := HS.out.2.2.2.2 p (List.mem_of_getElem? hp)
              have SZ := Lib.hid HS.out.1.size
              clear hp
              refine (take_yes w.heap.size w.heap.size 9 0 kk l v p wr HS.out.2.1 HP.out (by omega) SZ.out).mono ?_
              rintro e w2 ⟨rfl, ⟨v2, hn2, -⟩, hc2⟩
              obtain ⟨p1, p2, p3⟩ := HS.out.put hc2
              have N2 := Lib.hid hn2
              have C2 := Lib.hid p1
              have R2 := Lib.hid p3
              have PB2 := Lib.hid (hc2.block _ _ PB.out (NetX.ne HS.out.2.1 PB.out (by decide) (by decide)))
              have wb2 := p2
              have s2 := lt_of_blk p2
              clear hn2 hc2 p1 p2 p3 L1
              have wb2_c0 := blk_cell wb2 0; have wb2_f0 := blk_free wb2 0; have wb2_c1 := blk_cell wb2 1; have wb2_f1 := blk_free wb2 1; have wb2_c2 := blk_cell wb2 2; have wb2_f2 := blk_free wb2 2; have H_wb2 := Lib.hid wb2; clear wb2
              go_wp2_with fail
              have HP1 := rdata_get l kk p HP.out
              have L2 := HL.out
              refine (rtake_yes w.heap.size 9 0 kk Lv (rdata l) (p.to, ⟨p.b.toArray⟩) _ (R2.out.chgNo ((Chg.refl w2).alloc _)) HP1 (by rw [rdata_len]; omega)).mono ?_
              rintro e w4 ⟨Lv4, rfl, hr4, hc4⟩
              rw [← rdata_cut] at hr4
              have hl4 : (l.take kk ++ l.drop (kk + 1)).length + 1 = l.length := by rw [List.length_append, List.length_take, List.length_drop]; omega
              have h64 : ∀ q ∈ l.take kk ++ l.drop (kk + 1), q.b.length ≤ 6 := by
                intro q hq
                rcases List.mem_append.1 hq with h | h
                · exact HS.out.2.2.2.2 q (List.mem_of_mem_take h)
                · exact HS.out.2.2.2.2 q (List.mem_of_mem_drop h)
              obtain ⟨l4, hl⟩ : ∃ l4, l4 = l.take kk ++ l.drop (kk + 1) := ⟨_, rfl⟩
              rw [← hl] at hr4 hl4 h64 N2
              obtain ⟨R4, hR4⟩ : ∃ R, R = rdata l4 := ⟨_, rfl⟩
              rw [← hR4] at hr4
              have HR4 := Lib.hid hR4
              obtain ⟨A4, c4, rfl, _, _⟩ := Row.slice hr4
              have RR4 := Lib.hid hr4
              have C4 := Lib.hid hc4
              have H64 := Lib.hid h64
              have s4 := hc4.size
              have bx4 := hc4.blkNo (blk_new w2 (.cells #[.string p.to, .slice (some ⟨p.blk, 0, none⟩) p.b.length p.b.length] 36))
              have wb4 := hc4.blkNo (blk_alloc H_wb2.out _)
              have pb4 := hc4.blkNo (blk_alloc PB2.out (.cells #[.string p.to, .slice (some ⟨p.blk, 0, none⟩) p.b.length p.b.length] 36))
              have hc5 : Chg (BoxM (w.heap.size + 1) 33) w4 (((((w4.setCell ⟨w.heap.size + 1, 0, none⟩ (.int .i64 9)).setCell ⟨w.heap.size + 1, 1, none⟩ (.slice A4 R4.length c4)).setCell ⟨w.heap.size + 1, 2, none⟩ (.int .i64 0)).alloc (.cells #[.int .i64 9, .slice A4 R4.length c4, .int .i64 0] 33)).alloc (.cells #[.string p.to, .string ⟨p.b.toArray⟩] 44)) :=
                (((((Chg.refl w4).setBox wb4).setBox wb4).setBox wb4).alloc _).alloc _
              have wb5 : (((((w4.setCell ⟨w.heap.size + 1, 0, none⟩ (.int .i64 9)).setCell ⟨w.heap.size + 1, 1, none⟩ (.slice A4 R4.length c4)).setCell ⟨w.heap.size + 1, 2, none⟩ (.int .i64 0)).alloc (.cells #[.int .i64 9, .slice A4 R4.length c4, .int .i64 0] 33)).alloc (.cells #[.string p.to, .string ⟨p.b.toArray⟩] 44)).heap[w.heap.size + 1]? = some (.cells #[.int .i64 9, .slice A4 R4.length c4, .int .i64 0] 33 (0, 0)) :=
                blk_alloc (blk_alloc (blk_set (blk_set (blk_set wb4 0 _) 1 _) 2 _) _) _
              have hbs4 := run_string_bytes (P := Try.prog) _ 34 9 5 Try.underlying34 Try.underlying5 Try.underlying9 (some ⟨p.blk, 0, none⟩) p.b p.b.length ((bytes_blk pb4 (by omega)).chg hc5 (fun ad o he ho => by cases he; rw [pb4] at ho; cases ho; exact BoxM.ne (by decide)))
              have C5 := Lib.hid hc5
              have W5 := Lib.hid wb5
              clear hc5 wb5 pb4
              have s5 : w2.heap.size + 1 ≤ w4.heap.size := by simpa using s4
              have wbl4 : w.heap.size + 1 < w4.heap.size := by omega
              have wne : w.heap.size + 1 ≠ w4.heap.size := by omega
              have wne2 : w.heap.size ≠ w4.heap.size := by omega
              have wne3 : w2.heap.size ≠ w4.heap.size := by omega
              have wne4 : w2.heap.size ≠ w4.heap.size + 1 := by omega
              have wl5 : w.heap.size + 1 < w4.heap.size + 1 := by omega
              have wl6 : w.heap.size < w4.heap.size := by omega
              have wl7 : w2.heap.size < w4.heap.size := by omega
              have wl8 : w2.heap.size < w4.heap.size + 1 := by omega
              have wl9 : w4.heap.size < w4.heap.size + 1 := by omega
              clear HP1 L2 hr4 hc4 hR4 hl h64 wb2_c0 wb2_c1 wb2_c2 wb2_f0 wb2_f1 wb2_f2 s4
              have bx4_c0 := blk_cell bx4 0; have bx4_f0 := blk_free bx4 0; have bx4_c1 := blk_cell bx4 1; have bx4_f1 := blk_free bx4 1; have H_bx4 := Lib.hid bx4; clear bx4
              have wb4_c0 := blk_cell wb4 0; have wb4_f0 := blk_free wb4 0; have wb4_c1 := blk_cell wb4 1; have wb4_f1 := blk_free wb4 1; have wb4_c2 := blk_cell wb4 2; have wb4_f2 := blk_free wb4 2; have H_wb4 := Lib.hid wb4; clear wb4
              go_wp2_with fail
              refine ⟨⟨j + 1, by omega, by go_num, l4, v2, .slice A4 R4.length c4, ?_, ?_⟩, by simp [intOf]; omega⟩
              · refine Side.set (Lv := Lv) (lost := 0) (l := l) C2.out N2.out ((((Chg.refl w2).alloc _).trans C4.out)) H_wb4.out (by omega) C5.out W5.out ?_ H64.out
                rw [← HR4.out]
                exact RefAt.base RR4.out (by simp; omega)
              · show _ = _
                have := HL.out
                omega
            · have i1 : ¬ ((j : Int) < (ks.length : Int)) := by omega
              go_wp2_with fail
              have hkl : 0 < l.length := by omega
              obtain ⟨p, hp⟩ : ∃ p, l[0]? = some p := ⟨_, List.getElem?_eq_getElem hkl⟩
              have HP := Lib.hid hp
              have PB := Lib.hid (HS.out.2.1.2.2.2 p (List.mem_of_getElem? hp))
              have P6 := HS.out.2.2.2.2 p (List.mem_of_getElem? hp)
              have SZ := Lib.hid HS.out.1.size
              clear hp
              refine (take_yes w.heap.size w.heap.size 9 0 0 l v p wr HS.out.2.1 HP.out (by omega) SZ.out).mono ?_
              rintro e w2 ⟨rfl, ⟨v2, hn2, -⟩, hc2⟩
              obtain ⟨p1, p2, p3⟩ := HS.out.put hc2
              have N2 := Lib.hid hn2
              have C2 := Lib.hid p1
              have R2 := Lib.hid p3
              have PB2 := Lib.hid (hc2.block _ _ PB.out (NetX.ne HS.out.2.1 PB.out (by decide) (by decide)))
              have wb2 := p2
              have s2 := lt_of_blk p2
              clear hn2 hc2 p1 p2 p3 L1
              have wb2_c0 := blk_cell wb2 0; have wb2_f0 := blk_free wb2 0; have wb2_c1 := blk_cell wb2 1; have wb2_f1 := blk_free wb2 1; have wb2_c2 := blk_cell wb2 2; have wb2_f2 := blk_free wb2 2; have H_wb2 := Lib.hid wb2; clear wb2
              go_wp2_with fail
              have HP1 := rdata_get l 0 p HP.out
              have L2 := HL.out
              refine (rtake_yes w.heap.size 9 0 0 Lv (rdata l) (p.to, ⟨p.b.toArray⟩) _ (R2.out.chgNo ((Chg.refl w2).alloc _)) HP1 (by rw [rdata_len]; omega)).mono ?_
              rintro e w4 ⟨Lv4, rfl, hr4, hc4⟩
              rw [← rdata_cut] at hr4
              have hl4 : (l.take 0 ++ l.drop (0 + 1)).length + 1 = l.length := by rw [List.length_append, List.length_take, List.length_drop]; omega
              have h64 : ∀ q ∈ l.take 0 ++ l.drop (0 + 1), q.b.length ≤ 6 := by
                intro q hq
                rcases List.mem_append.1 hq with h | h
                · exact HS.out.2.2.2.2 q (List.mem_of_mem_take h)
                · exact HS.out.2.2.2.2 q (List.mem_of_mem_drop h)
              obtain ⟨l4, hl⟩ : ∃ l4, l4 = l.take 0 ++ l.drop (0 + 1) := ⟨_, rfl⟩
              rw [← hl] at hr4 hl4 h64 N2
              obtain ⟨R4, hR4⟩ : ∃ R, R = rdata l4 := ⟨_, rfl⟩
              rw [← hR4] at hr4
              have HR4 := Lib.hid hR4
              obtain ⟨A4, c4, rfl, _, _⟩ := Row.slice hr4
              have RR4 := Lib.hid hr4
              have C4 := Lib.hid hc4
              have H64 := Lib.hid h64
              have s4 := hc4.size
              have bx4 := hc4.blkNo (blk_new w2 (.cells #[.string p.to, .slice (some ⟨p.blk, 0, none⟩) p.b.length p.b.length] 36))
              have wb4 := hc4.blkNo (blk_alloc H_wb2.out _)
              have pb4 := hc4.blkNo (blk_alloc PB2.out (.cells #[.string p.to, .slice (some ⟨p.blk, 0, none⟩) p.b.length p.b.length] 36))
              have hc5 : Chg (BoxM (w.heap.size + 1) 33) w4 (((((w4.setCell ⟨w.heap.size + 1, 0, none⟩ (.int .i64 9)).setCell ⟨w.heap.size + 1, 1, none⟩ (.slice A4 R4.length c4)).setCell ⟨w.heap.size + 1, 2, none⟩ (.int .i64 0)).alloc (.cells #[.int .i64 9, .slice A4 R4.length c4, .int .i64 0] 33)).alloc (.cells #[.string p.to, .string ⟨p.b.toArray⟩] 44)) :=
                (((((Chg.refl w4).setBox wb4).setBox wb4).setBox wb4).alloc _).alloc _
              have wb5 : (((((w4.setCell ⟨w.heap.size + 1, 0, none⟩ (.int .i64 9)).setCell ⟨w.heap.size + 1, 1, none⟩ (.slice A4 R4.length c4)).setCell ⟨w.heap.size + 1, 2, none⟩ (.int .i64 0)).alloc (.cells #[.int .i64 9, .slice A4 R4.length c4, .int .i64 0] 33)).alloc (.cells #[.string p.to, .string ⟨p.b.toArray⟩] 44)).heap[w.heap.size + 1]? = some (.cells #[.int .i64 9, .slice A4 R4.length c4, .int .i64 0] 33 (0, 0)) :=
                blk_alloc (blk_alloc (blk_set (blk_set (blk_set wb4 0 _) 1 _) 2 _) _) _
              have hbs4 := run_string_bytes (P := Try.prog) _ 34 9 5 Try.underlying34 Try.underlying5 Try.underlying9 (some ⟨p.blk, 0, none⟩) p.b p.b.length ((bytes_blk pb4 (by omega)).chg hc5 (fun ad o he ho => by cases he; rw [pb4] at ho; cases ho; exact BoxM.ne (by decide)))
              have C5 := Lib.hid hc5
              have W5 := Lib.hid wb5
              clear hc5 wb5 pb4
              have s5 : w2.heap.size + 1 ≤ w4.heap.size := by simpa using s4
              have wbl4 : w.heap.size + 1 < w4.heap.size := by omega
              have wne : w.heap.size + 1 ≠ w4.heap.size := by omega
              have wne2 : w.heap.size ≠ w4.heap.size := by omega
              have wne3 : w2.heap.size ≠ w4.heap.size := by omega
              have wne4 : w2.heap.size ≠ w4.heap.size + 1 := by omega
              have wl5 : w.heap.size + 1 < w4.heap.size + 1 := by omega
              have wl6 : w.heap.size < w4.heap.size := by omega
              have wl7 : w2.heap.size < w4.heap.size := by omega
              have wl8 : w2.heap.size < w4.heap.size + 1 := by omega
              have wl9 : w4.heap.size < w4.heap.size + 1 := by omega
              clear HP1 L2 hr4 hc4 hR4 hl h64 wb2_c0 wb2_c1 wb2_c2 wb2_f0 wb2_f1 wb2_f2 s4
              have bx4_c0 := blk_cell bx4 0; have bx4_f0 := blk_free bx4 0; have bx4_c1 := blk_cell bx4 1; have bx4_f1 := blk_free bx4 1; have H_bx4 := Lib.hid bx4; clear bx4
              have wb4_c0 := blk_cell wb4 0; have wb4_f0 := blk_free wb4 0; have wb4_c1 := blk_cell wb4 1; have wb4_f1 := blk_free wb4 1; have wb4_c2 := blk_cell wb4 2; have wb4_f2 := blk_free wb4 2; have H_wb4 := Lib.hid wb4; clear wb4
              go_wp2_with fail
              refine ⟨⟨j + 1, by omega, by go_num, l4, v2, .slice A4 R4.length c4, ?_, ?_⟩, by simp [intOf]; omega⟩
              · refine Side.set (Lv := Lv) (lost := 0) (l := l) C2.out N2.out ((((Chg.refl w2).alloc _).trans C4.out)) H_wb4.out (by omega) C5.out W5.out ?_ H64.out
                rw [← HR4.out]
                exact RefAt.base RR4.out (by simp; omega)
              · show _ = _
                have := HL.out
                omega
          · have L1 := HL.out
            have hl0 : l.length = 0 := by omega
            have SZ := Lib.hid HS.out.1.size
            clear L1
            go_wp2_with fail
            refine (take_no w.heap.size w.heap.size 9 0 0 l v wr HS.out.2.1 (by omega)).mono ?_
            rintro e w2 ⟨rfl, hc2⟩
            have S2 := Lib.hid (HS.out.chgNo hc2)
            clear hc2
            go_wp2_with fail
            refine (len_any w.heap.size w.heap.size 9 0 l v _ (S2.out.2.1.chgNo ((Chg.refl w2).alloc _))).mono ?_
            rintro e w3 ⟨rfl, rfl⟩
            rw [hl0]
            go_wp2_with fail
            refine (lost_any w.heap.size w.heap.size 9 0 l v _ (S2.out.2.1.chgNo ((Chg.refl w2).alloc _))).mono ?_
            rintro e w3 ⟨rfl, rfl⟩
            go_wp2_with fail
            refine (lives_true _).mono ?_
            rintro e w5 ⟨rfl, hc5⟩
            go_wp2_with fail
            go_ret
            exact ⟨rfl, below_of_chg (((S2.out.1.alloc _)).trans hc5)⟩
end Go.Proofs.Ytmkjonfdeolihaa
