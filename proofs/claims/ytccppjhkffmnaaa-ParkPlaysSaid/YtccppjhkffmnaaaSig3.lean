/- A region that draws its order, walked as a tree: segments, and forks where two operations are ready (either may come first). -/
import Derived.Test.YtccppjhkffmnaaaSig2
namespace Go.Proofs.Ytccppjhkffmnaaa
set_option linter.unusedVariables false
set_option linter.unusedSimpArgs false
open Go.RowKit

/-- seq: segments to the end; pl, ll: a segment of plain operations, or of loads; fork: operations i and j are ready, either may come first. -/
inductive Tree where
  | seq (segs : List Seg)
  | pl (is : List Nat) (t : Tree)
  | ll (is : List Nat) (t : Tree)
  | fork (i j : Nat) (t1 t2 : Tree)
def Tree.len : Tree → Nat
  | .seq segs => segLen segs
  | .pl is t => t.len + is.length
  | .ll is t => t.len + is.length
  | .fork _ _ t1 _ => t1.len + 1

section
variable {P : Program} {ops : Array Oper} {Q : Exit → Act → World → Prop} {md : Region.Mode} {S : World → Prop} {m : Nat}

def wpTree (P : Program) (ops : Array Oper) (n : Nat) (Q : Exit → Act → World → Prop) (S : World → Prop) : Tree → Act → World → Prop
  | .seq segs, a, w => wpSig P ops n Q S segs a w
  | .pl is t, a, w => n ≤ a.tmps.size ∧ ∃ A, (∀ w', wpPl P ops A w' (pickOps ops is) a) ∧ wpTree P ops n Q S t A w
  | .ll is t, a, w => n ≤ a.tmps.size ∧ ∃ A, (∀ w', S w' → wpPl P ops A w' (pickOps ops is) a) ∧ wpTree P ops n Q S t A w
  | .fork i j t1 t2, a, w => wpList P ops (Exit.then (fun a w => S w ∧ wpTree P ops n Q S t1 a w) Q) (pickOps ops [i]) a w ∧ wpList P ops (Exit.then (fun a w => S w ∧ wpTree P ops n Q S t2 a w) Q) (pickOps ops [j]) a w
def chkTree (md : Region.Mode) (ops : Array Oper) (m n : Nat) : Tree → Array Bool → Bool
  | .seq segs, listed => chkSeg md ops m n segs listed
  | .pl is t, listed => match chkL md ops m n false is listed with | some l => chkTree md ops m n t l | none => false
  | .ll is t, listed => !is.isEmpty && match chkL md ops m n true is listed with | some l => chkTree md ops m n t l | none => false
  | .fork i j t1 t2, listed => (Region.ready md ops listed == [i, j]) && (t1.len == t2.len) && chkTree md ops m n t1 (listed.setIfInBounds i true) && chkTree md ops m n t2 (listed.setIfInBounds j true)

theorem tree_sound {n : Nat} (hsel : ∀ (j : Nat) (o : Oper) cs b, ops[j]? = some o → o.op ≠ .select cs b) (hQ : ∀ (c : _) (a : Act) (d : Option Tmp) (v : Value) (w : World), Q (.panic c) (a.put d v) w → Q (.panic c) a w)
    (hout : ∀ R, LetsOut (Exit.then R Q) → LetsOut Q) :
    ∀ (t : Tree) (listed : Array Bool) (a : Act) (w : World), ClosedL md ops listed → (listed.getD m true = false → S w) → chkTree md ops m n t listed = true → wpTree P ops n Q S t a w → wpAnyL P md ops Q S m t.len listed a w
  | .seq segs, listed, a, w, hcl, hS, hchk, h => sig_sound hsel hQ hout segs listed a w hcl hS hchk h
  | .pl is t, listed, a, w, hcl, hS, hchk, h => by
    obtain ⟨hn, A, hpl, hrest⟩ := h
    simp only [chkTree] at hchk
    split at hchk
    · rename_i l hl
      have hml : l.getD m true = false → listed.getD m true = false := fun h => (chkL_m hl).symm.trans h
      exact seg_plain (T := fun _ => True) hsel hQ (.inl ⟨rfl, fun _ => trivial⟩) (fun h => hS (hml h)) trivial is listed a t.len hcl hS hn hl (fun w' _ => hpl w') fun hcl' => tree_sound hsel hQ hout t l A w hcl' (fun h => hS (hml h)) hchk hrest
    · cases hchk
  | .ll is t, listed, a, w, hcl, hS, hchk, h => by
    obtain ⟨hn, A, hpl, hrest⟩ := h
    simp only [chkTree, Bool.and_eq_true, Bool.not_eq_true', List.isEmpty_eq_false_iff] at hchk
    obtain ⟨hne, hchk⟩ := hchk
    split at hchk
    · rename_i l hl
      have hml : l.getD m true = false → listed.getD m true = false := fun h => (chkL_m hl).symm.trans h
      cases is with
      | nil => exact absurd rfl hne
      | cons i is =>
        have hSw : S w := hS ((chkL_spec hl).choose_spec.choose_spec.2.2.2.2.2.2.2.1 rfl).1
        exact seg_plain (T := S) hsel hQ (.inr ⟨rfl, fun _ h => h⟩) (fun h => hS (hml h)) hSw (i :: is) listed a t.len hcl hS hn hl hpl fun hcl' => tree_sound hsel hQ hout t l A w hcl' (fun h => hS (hml h)) hchk hrest
    · cases hchk
  | .fork i j t1 t2, listed, a, w, hcl, hS, hchk, h => by
    simp only [chkTree, Bool.and_eq_true, beq_iff_eq] at hchk
    obtain ⟨⟨⟨hr, hlen⟩, hc1⟩, hc2⟩ := hchk
    obtain ⟨h1, h2⟩ := h
    refine ⟨fun e => (by rw [hr] at e; cases e), fun k hk => ?_⟩
    have hk' := hk
    rw [hr] at hk'
    obtain ⟨_, o, ho, _⟩ := mem_ready.1 hk
    have : k = i ∨ k = j := by simpa using hk'
    rcases this with rfl | rfl
    · rw [pick_one ho] at h1
      refine wpOp_mono (fun a' w' h' => ?_) (wpOp_of_list ho hout h1)
      obtain ⟨hS', hrest⟩ : S w' ∧ wpTree P ops n Q S t1 a' w' := h'
      exact ⟨fun _ => hS', tree_sound hsel hQ hout t1 _ a' w' (hcl.step hk) (fun _ => hS') hc1 hrest⟩
    · rw [pick_one ho] at h2
      refine wpOp_mono (fun a' w' h' => ?_) (wpOp_of_list ho hout h2)
      obtain ⟨hS', hrest⟩ : S w' ∧ wpTree P ops n Q S t2 a' w' := h'
      show _ ∧ wpAnyL P md ops Q S m t1.len _ _ _
      rw [hlen]
      exact ⟨fun _ => hS', tree_sound hsel hQ hout t2 _ a' w' (hcl.step hk) (fun _ => hS') hc2 hrest⟩

theorem wp_region_tree {id : Nat} {a : Act} {w : World} (m : Nat) (S : World → Prop) (t : Tree) (hm : P.follows .mixedOrders = true) (hQ : ∀ (c : _) (a : Act) (d : Option Tmp) (v : Value) (w : World), Q (.panic c) (a.put d v) w → Q (.panic c) a w)
    (hout : ∀ R, LetsOut (Exit.then R Q) → LetsOut Q)
    (hchk : (Region.noSelect ops && (t.len == ops.size) && chkTree .any ops m a.tmps.size t (Array.replicate ops.size false)) = true)
    (hS : S w.drew) (h : wpTree P ops a.tmps.size Q S t a w.drew) : (Code.region id ops true).wp P Q a w := by
  simp only [Bool.and_eq_true, beq_iff_eq] at hchk
  obtain ⟨⟨h1, h2⟩, h3⟩ := hchk
  refine wp_region_any hm ?_
  have hcl : ClosedL .any ops (Array.replicate ops.size false) := by
    intro j o _ hl
    rcases Nat.lt_or_ge j ops.size with h' | h'
    · simp [h'] at hl
    · simp [Array.getElem?_eq_none, h'] at hl
  have := tree_sound (md := .any) (S := S) (m := m) (Region.noSelect_spec h1) hQ hout t _ a w.drew hcl (fun _ => hS) h3 h
  rw [h2] at this
  exact wpAny_of_L _ _ _ _ this
theorem treeP {n : Nat} {is : List Nat} {t : Tree} {a A : Act} {w : World} (hn : n ≤ a.tmps.size) (h1 : ∀ w', wpPl P ops A w' (pickOps ops is) a) (h2 : wpTree P ops n Q S t A w) : wpTree P ops n Q S (.pl is t) a w := ⟨hn, A, h1, h2⟩
theorem treeL {n : Nat} {is : List Nat} {t : Tree} {a A : Act} {w : World} (hn : n ≤ a.tmps.size) (h1 : ∀ w', S w' → wpPl P ops A w' (pickOps ops is) a) (h2 : wpTree P ops n Q S t A w) : wpTree P ops n Q S (.ll is t) a w := ⟨hn, A, h1, h2⟩
theorem treeF {n i j : Nat} {t1 t2 : Tree} {a : Act} {w : World} (h1 : wpList P ops (Exit.then (fun a w => S w ∧ wpTree P ops n Q S t1 a w) Q) (pickOps ops [i]) a w) (h2 : wpList P ops (Exit.then (fun a w => S w ∧ wpTree P ops n Q S t2 a w) Q) (pickOps ops [j]) a w) : wpTree P ops n Q S (.fork i j t1 t2) a w := ⟨h1, h2⟩
theorem treeS {n : Nat} {segs : List Seg} {a : Act} {w : World} (h : wpSig P ops n Q S segs a w) : wpTree P ops n Q S (.seq segs) a w := h
end
end Go.Proofs.Ytccppjhkffmnaaa
