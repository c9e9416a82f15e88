/- The walk of NetFull. -/
import Derived.Test.YtmkjonfdeolihaaDec
import Derived.Test.YtmkjonfdeolihaaNet4
import Derived.Test.YtmkjonfdeolihaaNewsW
import Derived.Test.YtmkjonfdeolihaaSig
namespace Go.Proofs.Ytmkjonfdeolihaa
set_option linter.unusedVariables false
set_option linter.unusedSimpArgs false
open Go.RowKit

def Dec (l : List Pk) : Prop := ∀ i p, l[i]? = some p → p.to = decS i ∧ p.b = []
theorem Dec.put {l : List Pk} (h : Dec l) (bb : Nat) : Dec (l ++ [⟨decS l.length, [], bb⟩]) := by
  intro i p hp
  rcases Nat.lt_trichotomy i l.length with h1 | h1 | h1
  · rw [List.getElem?_append_left h1] at hp
    exact h i p hp
  · subst h1
    simp at hp
    subst hp
    exact ⟨rfl, rfl⟩
  · rw [List.getElem?_eq_none (by simp; omega)] at hp
    cases hp
theorem Dec.data {l L : List Pk} (h : Dec l) (e : pdata L = pdata l) : Dec L := by
  intro i p hp
  have h1 : (pdata L)[i]? = some (p.to, p.b) := by simp [pdata, hp]
  rw [e] at h1
  simp only [pdata, List.getElem?_map, Option.map_eq_some_iff] at h1
  obtain ⟨q, hq, e2⟩ := h1
  obtain ⟨h2, h3⟩ := h i q hq
  simp only [Prod.mk.injEq] at e2
  exact ⟨by rw [← e2.1]; exact h2, by rw [← e2.2]; exact h3⟩

set_option maxRecDepth 20000 in
set_option maxHeartbeats 4000000 in
theorem full_walk (most many : Int) (w : World) (h1 : -9223372036854775808 ≤ most) (h2 : most ≤ 9223372036854775807) (h3 : -9223372036854775808 ≤ many) (h4 : many ≤ 9223372036854775807) :
    Calls Try.prog 7 #[.int .i64 most, .int .i64 many] w fun e w' => e = .returned (.bool true) ∧ Below w.heap.size w w' := by
  have hb := aroundI_bd most 8 (by omega)
  have A0 := Lib.hid (around_any most 8 w h1 h2 (by omega) (by omega))
  obtain ⟨a, ha⟩ : ∃ a : Nat, aroundI most 8 = a := ⟨(aroundI most 8).toNat, by omega⟩
  rw [ha] at hb A0
  clear ha
  obtain ⟨-, a2⟩ := hb
  have hb := aroundI_bd many 13 (by omega)
  have A1 := Lib.hid (fun w' => around_any many 13 w' h3 h4 (by omega) (by omega))
  obtain ⟨m, hm⟩ : ∃ m : Nat, aroundI many 13 = m := ⟨(aroundI many 13).toNat, by omega⟩
  rw [hm] at hb A1
  clear hm
  obtain ⟨-, m2⟩ := hb
  go_enter Try.func7, Try.ntmps7
  go_wp2_with fail
  refine A0.out.mono ?_
  rintro e w1 ⟨rfl, rfl⟩
  go_wp2_with fail
  refine (A1.out _).mono ?_
  rintro e w1 ⟨rfl, rfl⟩
  go_wp2_with fail
  refine (new_yes (1 + (a : Int)) _ (by omega) (by omega)).mono ?_
  rintro e w1 ⟨rfl, hn1, hs1, hc1⟩
  have N1 := Lib.hid hn1
  have C1 := Lib.hid hc1
  clear hn1 hs1 hc1
  go_wp2_with fail
  go_loopw [9] (fun i wr => ∃ j : Nat, j ≤ m ∧ i = .int .i64 j ∧ ∃ l v lost, Hid (Chg NoM w wr) ∧ Hid (NetAt wr w.heap.size w.heap.size (1 + (a : Int)) l lost v) ∧ Hid (Dec l) ∧
    Hid ((j ≤ a + 1 ∧ l.length = j ∧ lost = 0) ∨ (a + 1 ≤ j ∧ l.length = a + 1 ∧ lost = (j : Int) - (1 + a)))) (fun i _ => m - (intOf i).toNat)
  case atStart => exact ⟨0, by omega, rfl, [], _, 0, C1, N1, fun i p h => (by simp at h), .inl ⟨by omega, rfl, rfl⟩⟩
  case round =>
    obtain ⟨j, hj, rfl, l, v, lost, C, N, D, X⟩ := hrel
    by_cases hlt : j < m
    · go_wp2_with fail
      refine (dec_any j wr (by omega)).mono ?_
      rintro e w2 ⟨rfl, hc2⟩
      have C2 := Lib.hid (C.out.trans hc2)
      have N2 := Lib.hid (N.out.chgNo hc2)
      clear hc2
      have xx := X.out
      by_cases hja : j < a + 1
      · obtain ⟨hl, rfl⟩ : l.length = j ∧ lost = 0 := by rcases xx with h | h <;> omega
        have HP := Lib.hid (put_yes w.heap.size w.heap.size (1 + (a : Int)) 0 l v (decS j) none 0 [] w2 N2.out ⟨by simp, fun h => by simp at h⟩ (by simp) (by omega) (by omega))
        have HL := Lib.hid hl
        clear xx hl
        have i1 : (j : Int) < 1 + (a : Int) := by omega
        go_wp2_with fail
        refine HP.out.mono ?_
        rintro e w3 ⟨rfl, bb, v3, hbb, hn3, hc3⟩
        have N3 := Lib.hid hn3
        have C3 := Lib.hid (C2.out.thenAll hc3 (NetX.new N2.out))
        clear hn3 hc3
        go_wp2_with fail
        refine ⟨⟨j + 1, by omega, by go_num, l ++ [⟨decS j, [], bb⟩], v3, 0, C3, N3, ?_, ?_⟩, by simp [intOf]; omega⟩
        · have := D.out.put bb
          rw [HL.out] at this
          exact this
        · exact .inl ⟨by omega, by rw [List.length_append, HL.out]; rfl, rfl⟩
      · have hl : l.length = a + 1 ∧ lost = (j : Int) - (1 + a) := by rcases xx with h | h <;> omega
        have HP := Lib.hid (put_no w.heap.size w.heap.size (1 + (a : Int)) lost l v (decS j) none 0 0 w2 N2.out (by omega) (by omega) (by omega))
        have HL := Lib.hid hl
        clear xx hl
        have i1 : ¬ (j : Int) < 1 + (a : Int) := by omega
        go_wp2_with fail
        refine HP.out.mono ?_
        rintro e w3 ⟨rfl, hn3, hc3⟩
        have N3 := Lib.hid hn3
        have C3 := Lib.hid (C2.out.thenAll hc3 (NetX.new N2.out))
        clear hn3 hc3
        go_wp2_with fail
        refine ⟨⟨j + 1, by omega, by go_num, l, v, lost + 1, C3, N3, D, ?_⟩, by simp [intOf]; omega⟩
        have := HL.out
        exact .inr ⟨by omega, this.1, by omega⟩
    · obtain rfl : m = j := by omega
      have xx := X.out
      have LL : Hid (l.length ≤ 1000) := by show _ ≤ _; rcases xx with h | h <;> omega
      clear xx
      go_wp2_with fail
      refine (all_any w.heap.size w.heap.size (1 + (a : Int)) lost l v _ N.out LL.out (fun p hp => by
        obtain ⟨i, hi⟩ := List.mem_iff_getElem?.1 hp
        rw [(D.out i p hi).2]
        simp)).mono ?_
      rintro e w2 ⟨v', L, rfl, hL, hd, hc2⟩
      obtain ⟨AL, cL, rfl, hcL, hcL2⟩ := hL.1.slice
      have HLL := Lib.hid hL
      have DL := Lib.hid (D.out.data hd)
      have C2 := Lib.hid (C.out.trans hc2)
      have N2 := Lib.hid (N.out.chgNo hc2)
      have HK : Hid (L.length ≤ 50) := by
        show _ ≤ _
        have := congrArg List.length hd
        simp [pdata] at this
        rcases X.out with h | h <;> omega
      clear hL hd hc2
      go_wp2_with fail
      go_loopw [11] (fun i wr => ∃ k : Nat, k ≤ L.length ∧ i = .int .i64 k ∧ Hid (Chg NoM w2 wr)) (fun i _ => L.length - (intOf i).toNat)
      case atStart => exact ⟨0, by omega, rfl, Chg.refl w2⟩
      case round =>
        obtain ⟨k, hk, rfl, CC⟩ := hrel
        by_cases hkl : k < L.length
        · obtain ⟨g, cap, he, hbg, _, _, ⟨cur, hcur, _⟩, hcells⟩ := HLL.out.1.cells (by omega)
          cases he
          obtain ⟨p, hp⟩ : ∃ p, L[k]? = some p := ⟨_, List.getElem?_eq_getElem hkl⟩
          obtain ⟨hq0, hq1⟩ := pcells_at L k p hp
          obtain ⟨dp1, dp2⟩ := DL.out k p hp
          have e0 := CC.out.cellNo (hcells _ _ hq0)
          have e1 := CC.out.cellNo (hcells _ _ hq1)
          rw [dp1] at e0
          rw [dp2] at e1
          have E0 := Lib.hid e0
          have E1 := Lib.hid e1
          clear e0 e1 hq0 hq1 dp1 dp2 hp hcells hcur
          have i0 : (0 : Int) ≤ (k : Int) := by omega
          have i1 : (k : Int) < (L.length : Int) := by omega
          have k50 : k < 50 := by have := HK.out; omega
          go_wp2_with fail
          refine wp_region_sig 16 (fun w' => Chg NoM wr w') [.P [0, 1, 5], .L [2, 3, 4], .K 6, .P [7, 8, 9, 10], .L [11, 12, 13], .P [14, 15], .N [16]] rfl (fun _ _ d _ _ h => by cases d <;> exact h) (fun _ h => h) (by kernel_rfl) ((Chg.refl _).drew) ?_
          apply sigP (Nat.le_refl _)
          · intro w'
            (simp only [wpPl, pickOps, List.filterMap_cons, List.filterMap_nil, List.getElem?_toArray, List.getElem?_cons_zero, List.getElem?_cons_succ]; iterate 3 (go_wp2; refine ⟨trivial, ?_⟩)); rfl
          apply sigL (by simp)
          · intro w' hS
            have y0 := hS.cellNo E0.out
            (simp only [wpPl, pickOps, List.filterMap_cons, List.filterMap_nil, List.getElem?_toArray, List.getElem?_cons_zero, List.getElem?_cons_succ]; iterate 3 (go_wp2; refine ⟨trivial, ?_⟩)); rfl
          apply sigK
          simp only [pickOps, List.filterMap_cons, List.filterMap_nil, List.getElem?_toArray, List.getElem?_cons_zero, List.getElem?_cons_succ]
          go_wp2_with fail
          refine (dec_any k wr.drew (by omega)).mono ?_
          rintro e w3 ⟨rfl, hc3⟩
          have S3 := Lib.hid ((Chg.refl wr).drew.trans hc3)
          clear hc3
          go_wp2_with fail
          refine ⟨S3.out, ?_⟩
          apply sigP (by simp)
          · intro w'
            (simp only [wpPl, pickOps, List.filterMap_cons, List.filterMap_nil, List.getElem?_toArray, List.getElem?_cons_zero, List.getElem?_cons_succ]; iterate 4 (go_wp2; refine ⟨trivial, ?_⟩)); rfl
          apply sigL (by simp)
          · intro w' hS
            have y1 := hS.cellNo E1.out
            (simp only [wpPl, pickOps, List.filterMap_cons, List.filterMap_nil, List.getElem?_toArray, List.getElem?_cons_zero, List.getElem?_cons_succ]; iterate 3 (go_wp2; refine ⟨trivial, ?_⟩)); rfl
          apply sigP (by simp)
          · intro w'
            (simp only [wpPl, pickOps, List.filterMap_cons, List.filterMap_nil, List.getElem?_toArray, List.getElem?_cons_zero, List.getElem?_cons_succ]; iterate 2 (go_wp2; refine ⟨trivial, ?_⟩)); rfl
          apply sigN
          simp only [pickOps, List.filterMap_cons, List.filterMap_nil, List.getElem?_toArray, List.getElem?_cons_zero, List.getElem?_cons_succ]
          go_wp2_with fail
          apply sigEnd
          go_wp2_with fail
          exact ⟨⟨k + 1, by omega, by go_num, CC.out.trans S3.out⟩, by simp [intOf]; omega⟩
        · have _h := hkl
          have C3 := Lib.hid (C2.out.trans CC.out)
          have N3 := Lib.hid (N2.out.chgNo CC.out)
          have xx := X.out
          have LL2 : l.length ≤ 1000 := LL.out
          clear CC
          by_cases hm0 : m = 0
          · subst hm0
            obtain ⟨hl, rfl⟩ : l.length = 0 ∧ lost = 0 := by rcases xx with h | h <;> omega
            have i2 : ¬ (1 + (a : Int) ≤ 0) := by omega
            have i3 : ¬ (1 + (a : Int) < 0) := by omega
            have i4 : ¬ (0 < -(1 + (a : Int))) := by omega
            have HP := Lib.hid (copy_no w.heap.size w.heap.size (1 + (a : Int)) 0 0 l v wr N3.out (by omega))
            have HL := Lib.hid hl
            clear xx hl
            go_wp2_with fail
            refine HP.out.mono ?_
            rintro e w4 ⟨rfl, rfl⟩
            go_wp2_with fail
            refine (len_any w.heap.size w.heap.size (1 + (a : Int)) 0 l v wr N3.out).mono ?_
            rw [HL.out]
            rintro e w4 ⟨rfl, rfl⟩
            go_wp2_with fail
            refine (b2i_any true wr).mono ?_
            rintro e w4 ⟨rfl, rfl⟩
            go_wp2_with fail
            refine (lost_any _ _ _ _ _ _ wr N3.out).mono ?_
            rintro e w8 ⟨rfl, rfl⟩
            go_wp2_with fail
            rw [decide_eq_false (show ¬ (1 + (a : Int) ≤ 0) by omega)]
            refine (b2i_any false wr).mono ?_
            rintro e w8 ⟨rfl, rfl⟩
            go_wp2_with fail
            refine (lives_true wr).mono ?_
            rintro e w9 ⟨rfl, hc9⟩
            go_wp2_with fail
            go_ret
            exact ⟨rfl, below_of_chg (C3.out.trans hc9)⟩
          · have m1 : 0 < (m : Int) := by omega
            have m0 : ((m : Int) == 0) = false := by simp; omega
            by_cases hmk : m < a + 1
            · obtain ⟨hl, rfl⟩ : l.length = m ∧ lost = 0 := by rcases xx with h | h <;> omega
              obtain ⟨p, hp⟩ : ∃ p, l[0]? = some p := ⟨_, List.getElem?_eq_getElem (by omega)⟩
              have HP := Lib.hid (copy_yes w.heap.size w.heap.size (1 + (a : Int)) 0 0 l v p wr N3.out hp (by rw [(D.out 0 p hp).2]; simp) (by omega) (by omega))
              have HL := Lib.hid hl
              clear xx hl hp
              have i1 : (m : Int) < 1 + (a : Int) := by omega
              have i2 : ¬ (1 + (a : Int) ≤ (m : Int)) := by omega
              have i3 : (m : Int) - (1 + (a : Int)) < 0 := by omega
              have i4 : (m : Int) + 1 ≤ 1 + (a : Int) := by omega
              go_wp2_with fail
              refine HP.out.mono ?_
              rintro e w4 ⟨rfl, bb, v4, hbb, hn4, hc4⟩
              have N4 := Lib.hid hn4
              have C4 := Lib.hid (C3.out.thenAll hc4 (NetX.new N3.out))
              clear hn4 hc4
              go_wp2_with fail
              refine (len_any _ _ _ _ _ _ w4 N4.out).mono ?_
              rw [List.length_append, HL.out]
              rintro e w5 ⟨rfl, rfl⟩
              go_wp2_with fail
              refine (b2i_any false w4).mono ?_
              rintro e w8 ⟨rfl, rfl⟩
              go_wp2_with fail
              all_goals
                refine (lost_any _ _ _ _ _ _ w4 N4.out).mono ?_
                rintro e w8 ⟨rfl, rfl⟩
                go_wp2_with fail
                rw [decide_eq_false (show ¬ (1 + (a : Int) ≤ (m : Int)) by omega)]
                refine (b2i_any false w4).mono ?_
                rintro e w8 ⟨rfl, rfl⟩
                go_wp2_with fail
                refine (lives_true w4).mono ?_
                rintro e w9 ⟨rfl, hc9⟩
                go_wp2_with fail
                go_ret
                exact ⟨rfl, below_of_chg (C4.out.trans hc9)⟩
            · obtain ⟨hl, rfl⟩ : l.length = a + 1 ∧ lost = (m : Int) - (1 + a) := by rcases xx with h | h <;> omega
              obtain ⟨p, hp⟩ : ∃ p, l[0]? = some p := ⟨_, List.getElem?_eq_getElem (by omega)⟩
              have HP := Lib.hid (copy_full w.heap.size w.heap.size (1 + (a : Int)) ((m : Int) - (1 + a)) 0 l v p wr N3.out hp (by omega) (by omega) (by omega))
              have HL := Lib.hid hl
              clear xx hl hp
              have i1 : ¬ (m : Int) < 1 + (a : Int) := by omega
              have i2 : 1 + (a : Int) ≤ (m : Int) := by omega
              have i4 : ¬ (m : Int) + 1 < 1 + (a : Int) := by omega
              have i5 : 0 ≤ (m : Int) - (1 + (a : Int)) := by omega
              go_wp2_with fail
              refine HP.out.mono ?_
              rintro e w4 ⟨rfl, hn4, hc4⟩
              have N4 := Lib.hid hn4
              have C4 := Lib.hid (C3.out.thenAll hc4 (NetX.new N3.out))
              clear hn4 hc4
              go_wp2_with fail
              refine (len_any _ _ _ _ _ _ w4 N4.out).mono ?_
              rw [HL.out, show ((a + 1 : Nat) : Int) = 1 + (a : Int) by omega]
              rintro e w5 ⟨rfl, rfl⟩
              go_wp2_with fail
              refine (b2i_any false w4).mono ?_
              rintro e w8 ⟨rfl, rfl⟩
              go_wp2_with fail
              refine (lost_any _ _ _ _ _ _ w4 N4.out).mono ?_
              rintro e w8 ⟨rfl, rfl⟩
              go_wp2_with fail
              refine (b2i_any true w4).mono ?_
              rintro e w8 ⟨rfl, rfl⟩
              go_wp2_with fail
              refine (lives_true w4).mono ?_
              rintro e w9 ⟨rfl, hc9⟩
              go_wp2_with fail
              go_ret
              exact ⟨by first | rfl | (simp; omega), below_of_chg (C4.out.trans hc9)⟩
end Go.Proofs.Ytmkjonfdeolihaa
