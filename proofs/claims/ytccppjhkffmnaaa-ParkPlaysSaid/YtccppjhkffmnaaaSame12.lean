/- Equal lists of EDUs are the same. -/
import Derived.Test.YtccppjhkffmnaaaWaits
namespace Go.Proofs.Ytccppjhkffmnaaa
set_option linter.unusedVariables false
set_option linter.unusedSimpArgs false
open Go.RowKit
set_option maxHeartbeats 2000000 in
theorem same_edus (base base2 : Nat) (A A2 : Option Addr) (c c2 : Nat) (l : List Edu) (w : World) (h1 : ERow w base (.slice A l.length c) l) (h2 : ERow w base2 (.slice A2 l.length c2) l) :
    Calls Try.prog 15 #[.slice A l.length c, .slice A2 l.length c2] w fun e w' => e = .returned (.bool true) ∧ Chg NoM w w' := by
  have H1 := Lib.hid h1
  have H2 := Lib.hid h2
  have lc : l.length ≤ 9223372036854775807 := by
    obtain ⟨_, _, he, h1, h2⟩ := Row.slice h1
    simp only [maxLen] at h2
    omega
  have hg := guard32
  clear h1 h2
  go_enter Try.func15, Try.ntmps15
  go_wp2_with fail
  go_loopw [5] (fun i wr => ∃ k : Nat, k ≤ l.length ∧ i = .int .i64 k ∧ Hid (Chg NoM w wr)) (fun i _ => l.length - (intOf i).toNat)
  case atStart => exact ⟨0, by omega, rfl, Chg.refl w⟩
  case round =>
    obtain ⟨k, hk, rfl, C⟩ := hrel
    by_cases hlt : k < l.length
    · obtain ⟨p, hp⟩ : ∃ p, l[k]? = some p := ⟨_, List.getElem?_eq_getElem hlt⟩
      obtain ⟨g, rfl, _, _, hc⟩ := (H1.out.chgNo C.out).at hp
      obtain ⟨g2, rfl, _, _, hc2⟩ := (H2.out.chgNo C.out).at hp
      have x_0 := hc 0 (by omega)
      have x_1 := hc 1 (by omega)
      have x_2 := hc 2 (by omega)
      have x_3 := hc 3 (by omega)
      have x_4 := hc 4 (by omega)
      have x_5 := hc 5 (by omega)
      have x_6 := hc 6 (by omega)
      have x_7 := hc 7 (by omega)
      have x_8 := hc 8 (by omega)
      have x_9 := hc 9 (by omega)
      have x_10 := hc 10 (by omega)
      simp only [Edu.cells, List.getElem?_cons_zero, List.getElem?_cons_succ, List.getElem?_toArray, Nat.add_zero] at x_0 x_1 x_2 x_3 x_4 x_5 x_6 x_7 x_8 x_9 x_10
      have y_0 := hc2 0 (by omega)
      have y_1 := hc2 1 (by omega)
      have y_2 := hc2 2 (by omega)
      have y_3 := hc2 3 (by omega)
      have y_4 := hc2 4 (by omega)
      have y_5 := hc2 5 (by omega)
      have y_6 := hc2 6 (by omega)
      have y_7 := hc2 7 (by omega)
      have y_8 := hc2 8 (by omega)
      have y_9 := hc2 9 (by omega)
      have y_10 := hc2 10 (by omega)
      simp only [Edu.cells, List.getElem?_cons_zero, List.getElem?_cons_succ, List.getElem?_toArray, Nat.add_zero] at y_0 y_1 y_2 y_3 y_4 y_5 y_6 y_7 y_8 y_9 y_10
      have hq := neqE p p wr.drew
      have hq0 := neqE p p wr
      rw [decide_eq_true rfl] at hq hq0
      simp only [Bool.not_true] at hq hq0
      unfold Edu.agg at hq hq0
      have i0 : (0 : Int) ≤ (k : Int) := by omega
      have i1 : (k : Int) < (l.length : Int) := by omega
      clear hc hc2 hp
      go_wp2_with fail
      go_quiet (fail)
      go_wp2_with fail
      exact ⟨⟨k + 1, by omega, by go_num, C.out.drewN _⟩, by simp [intOf]; omega⟩
    · go_wp2_with fail
      go_ret
      exact ⟨rfl, C.out⟩
end Go.Proofs.Ytccppjhkffmnaaa
