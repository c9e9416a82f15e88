/- A region that draws its order: loads first, then ONE FORK (two operations are ready: either may come first: say a call and an allocation), each way in segments. -/
import Derived.Test.YtccppjhkffmnaaaSig
namespace Go.Proofs.Ytccppjhkffmnaaa
set_option linter.unusedVariables false
set_option linter.unusedSimpArgs false
open Go.RowKit
section
variable {P : Program} {ops : Array Oper} {Q : Exit → Act → World → Prop}

theorem pick_one {ops : Array Oper} {i : Nat} {o : Oper} (h : ops[i]? = some o) : pickOps ops [i] = [o] := by simp [pickOps, h]

def chkFork (ops : Array Oper) (m n : Nat) (is0 : List Nat) (i j : Nat) (r1 r2 : List Seg) : Bool :=
  !is0.isEmpty && (is0.length + 1 + segLen r1 == ops.size) && (segLen r1 == segLen r2) &&
  match chkL .any ops m n true is0 (Array.replicate ops.size false) with
  | some l => (Region.ready .any ops l == [i, j]) && chkSeg .any ops m n r1 (l.setIfInBounds i true) && chkSeg .any ops m n r2 (l.setIfInBounds j true)
  | none => false

theorem wp_region_fork {id : Nat} {a A : Act} {w : World} (m : Nat) (S : World → Prop) (is0 : List Nat) (i j : Nat) (r1 r2 : List Seg) (hm : P.follows .mixedOrders = true) (hQ : ∀ (c : _) (a : Act) (d : Option Tmp) (v : Value) (w : World), Q (.panic c) (a.put d v) w → Q (.panic c) a w)
    (hout : ∀ R, LetsOut (Exit.then R Q) → LetsOut Q)
    (hchk : (Region.noSelect ops && chkFork ops m a.tmps.size is0 i j r1 r2) = true)
    (hS : S w.drew) (hpl : ∀ w', S w' → wpPl P ops A w' (pickOps ops is0) a)
    (h1 : wpList P ops (Exit.then (fun a' w' => S w' ∧ wpSig P ops a.tmps.size Q S r1 a' w') Q) (pickOps ops [i]) A w.drew)
    (h2 : wpList P ops (Exit.then (fun a' w' => S w' ∧ wpSig P ops a.tmps.size Q S r2 a' w') Q) (pickOps ops [j]) A w.drew) : (Code.region id ops true).wp P Q a w := by
  simp only [Bool.and_eq_true] at hchk
  obtain ⟨hns, hchk⟩ := hchk
  simp only [chkFork, Bool.and_eq_true, beq_iff_eq, Bool.not_eq_true', List.isEmpty_eq_false_iff] at hchk
  obtain ⟨⟨⟨hne, hlen⟩, hlen2⟩, hchk⟩ := hchk
  have hsel := Region.noSelect_spec hns
  split at hchk
  · rename_i l hl
    simp only [Bool.and_eq_true, beq_iff_eq] at hchk
    obtain ⟨⟨hr, hc1⟩, hc2⟩ := hchk
    refine wp_region_any hm ?_
    have hcl : ClosedL .any ops (Array.replicate ops.size false) := by
      intro j o _ hl
      rcases Nat.lt_or_ge j ops.size with h' | h'
      · simp [h'] at hl
      · simp [Array.getElem?_eq_none, h'] at hl
    have key : wpAnyL P .any ops Q S m (segLen r1 + 1 + is0.length) (Array.replicate ops.size false) a w.drew := by
      refine seg_plain (ntmps := a.tmps.size) (T := S) hsel hQ (.inr ⟨rfl, fun _ h => h⟩) (fun _ => hS) hS is0 _ a (segLen r1 + 1) hcl (fun _ => hS) (Nat.le_refl _) hl hpl fun hcl' => ?_
      refine ⟨fun e => (by rw [hr] at e; cases e), fun k hk => ?_⟩
      have hk' := hk
      rw [hr] at hk'
      obtain ⟨_, o, ho, _⟩ := mem_ready.1 hk
      have : k = i ∨ k = j := by simpa using hk'
      rcases this with rfl | rfl
      · rw [pick_one ho] at h1
        refine wpOp_mono (fun a' w' h' => ?_) (wpOp_of_list ho hout h1)
        obtain ⟨hS', hrest⟩ : S w' ∧ wpSig P ops a.tmps.size Q S r1 a' w' := h'
        exact ⟨fun _ => hS', sig_sound hsel hQ hout r1 _ a' w' (hcl'.step hk) (fun _ => hS') hc1 hrest⟩
      · rw [pick_one ho] at h2
        refine wpOp_mono (fun a' w' h' => ?_) (wpOp_of_list ho hout h2)
        obtain ⟨hS', hrest⟩ : S w' ∧ wpSig P ops a.tmps.size Q S r2 a' w' := h'
        rw [hlen2]
        exact ⟨fun _ => hS', sig_sound hsel hQ hout r2 _ a' w' (hcl'.step hk) (fun _ => hS') hc2 hrest⟩
    rw [show segLen r1 + 1 + is0.length = ops.size by omega] at key
    exact wpAny_of_L _ _ _ _ key
  · cases hchk
end
end Go.Proofs.Ytccppjhkffmnaaa
