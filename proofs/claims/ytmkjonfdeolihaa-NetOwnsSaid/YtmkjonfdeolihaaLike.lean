/- like: packets and the reference's, side by side. -/
import Derived.Test.YtmkjonfdeolihaaTakesW
import Derived.Test.YtmkjonfdeolihaaNet4
import Derived.BigQuiet
namespace Go.Proofs.Ytmkjonfdeolihaa
set_option linter.unusedVariables false
set_option linter.unusedSimpArgs false
open Go.RowKit

set_option maxHeartbeats 1600000 in
theorem like_true (B B2 : Nat) (v v2 : Value) (L : List Pk) (w : World) (hL : Row w B 36 2 v L.length (pcells L)) (hb : PBytes w L) (hR : RefAt w B2 v2 (rdata L)) (hn : ∀ p ∈ L, p.b.length ≤ 1000) :
    Calls Try.prog 19 #[v, v2] w fun e w' => e = .returned (.bool true) ∧ Chg NoM w w' := by
  obtain ⟨A1, c1, rfl, k1, k2⟩ := hL.slice
  obtain ⟨A2, c2, rfl, k3, k4⟩ := Row.slice hR
  have HL := Lib.hid hL
  have HB := Lib.hid hb
  have HR := Lib.hid hR
  have HN := Lib.hid hn
  have hl : L.length ≤ 9223372036854775807 := by
    have : maxLen = 9223372036854775807 := rfl
    omega
  clear hL hb hR hn k1 k2 k3 k4
  rw [rdata_len]
  go_enter Try.func19, Try.ntmps19
  go_wp2_with fail
  go_loopw [5] (fun i wr => ∃ k : Nat, k ≤ L.length ∧ i = .int .i64 k ∧ Hid (Chg NoM w wr)) (fun i _ => L.length - (intOf i).toNat)
  case atStart => exact ⟨0, by omega, rfl, Chg.refl w⟩
  case round =>
    obtain ⟨k, hk, rfl, C⟩ := hrel
    by_cases hlt : k < L.length
    · obtain ⟨p, hp⟩ : ∃ p, L[k]? = some p := ⟨_, List.getElem?_eq_getElem hlt⟩
      obtain ⟨g, cap, he, hbg, _, _, ⟨cur, hcur, _⟩, hcells⟩ := HL.out.cells (by omega)
      cases he
      obtain ⟨g2, cap2, he2, hbg2, _, _, ⟨cur2, hcur2, _⟩, hcells2⟩ := Row.cells HR.out (by rw [rdata_len]; omega)
      cases he2
      obtain ⟨q0, q1⟩ := pcells_at L k p hp
      obtain ⟨r0, r1⟩ := rcells_at (rdata L) k _ (rdata_get L k p hp)
      have E0 := Lib.hid (C.out.cellNo (hcells _ _ q0))
      have E1 := Lib.hid (C.out.cellNo (hcells _ _ q1))
      have F0 := Lib.hid (C.out.cellNo (hcells2 _ _ r0))
      have F1 := Lib.hid (C.out.cellNo (hcells2 _ _ r1))
      have hpm := List.mem_of_getElem? hp
      have h6 := HN.out p hpm
      have PB := Lib.hid (bytes_blk (C.out.blkNo (HB.out p hpm)) (by omega))
      clear hcells hcells2 hcur hcur2 q0 q1 r0 r1 hpm hp h6
      have i0 : (0 : Int) ≤ (k : Int) := by omega
      have i1 : (k : Int) < (L.length : Int) := by omega
      go_wp2_with fail
      refine wp_region_sig 24 (fun w' => Chg NoM wr w') [.L [0, 1, 2, 3, 4, 5, 6, 7, 8, 9, 10, 11, 12, 13, 14, 15, 16, 17, 18, 19, 20, 21, 22, 23], .N [24]] rfl (fun _ _ d _ _ h => by cases d <;> exact h) (fun _ h => h) (by kernel_rfl) ((Chg.refl _).drew) ?_
      apply sigL (Nat.le_refl _)
      · intro w' hS
        have y0 := hS.cellNo E0.out
        have y1 := hS.cellNo E1.out
        have y2 := hS.cellNo F0.out
        have y3 := hS.cellNo F1.out
        have y4 := run_string_bytes (P := Try.prog) w' 34 9 5 Try.underlying34 Try.underlying5 Try.underlying9 (some ⟨p.blk, 0, none⟩) p.b p.b.length (PB.out.chgNo hS)
        (simp only [wpPl, pickOps, List.filterMap_cons, List.filterMap_nil, List.getElem?_toArray, List.getElem?_cons_zero, List.getElem?_cons_succ]; iterate 24 (go_wp2; refine ⟨trivial, ?_⟩)); rfl
      apply sigN
      simp only [pickOps, List.filterMap_cons, List.filterMap_nil, List.getElem?_toArray, List.getElem?_cons_zero, List.getElem?_cons_succ]
      go_wp2_with fail
      apply sigEnd
      go_wp2_with fail
      exact ⟨⟨k + 1, by omega, by go_num, C.out.drew⟩, by simp [intOf]; omega⟩
    · go_wp2_with fail
      go_ret
      exact ⟨rfl, C.out⟩
end Go.Proofs.Ytmkjonfdeolihaa
