/- A region that draws its order, walked in ONE order: loads and plain operations first, in segments; one condition S on the world holds till operation number m. -/
import Derived.Test.YtccppjhkffmnaaaBase
namespace Go.Proofs.Ytccppjhkffmnaaa
set_option linter.unusedVariables false
set_option linter.unusedSimpArgs false
open Go.RowKit
section
variable {P : Program} {ops : Array Oper} {Q : Exit → Act → World → Prop} {md : Region.Mode} {S : World → Prop} {m : Nat}

/-- Does operation j wait for operation i, through at most so many others? -/
def waits (md : Region.Mode) (ops : Array Oper) : Nat → Nat → Nat → Bool
  | 0, _, _ => false
  | n + 1, j, i => ((ops[j]?).map fun o => o.after.any fun e => Region.binds md e && (e.on == i || waits md ops n e.on i)).getD false

/-- What is listed is closed under what it waits for. -/
def ClosedL (md : Region.Mode) (ops : Array Oper) (listed : Array Bool) : Prop :=
  ∀ j o, ops[j]? = some o → listed.getD j false = true → ∀ e ∈ o.after, Region.binds md e = true → listed.getD e.on false = true

theorem ClosedL.of_waits {listed : Array Bool} (hc : ClosedL md ops listed) : ∀ (n j i : Nat), listed.getD j false = true → waits md ops n j i = true → listed.getD i false = true := by
  intro n
  induction n with
  | zero => intro j i _ h; simp [waits] at h
  | succ n ih =>
    intro j i hj h
    cases ho : ops[j]? with
    | none => simp [waits, ho] at h
    | some o =>
      simp only [waits, ho, Option.map_some, Option.getD_some, Array.any_eq_true', Bool.and_eq_true, Bool.or_eq_true, beq_iff_eq] at h
      obtain ⟨e, he, hb, h⟩ := h
      have h1 := hc j o ho hj e he hb
      rcases h with rfl | h
      · exact h1
      · exact ih _ _ h1 h
theorem ClosedL.step {listed : Array Bool} (hc : ClosedL md ops listed) {j : Nat} (hj : j ∈ Region.ready md ops listed) : ClosedL md ops (listed.setIfInBounds j true) := by
  obtain ⟨_, o, ho, hall⟩ := mem_ready.1 hj
  intro k ok hk hl e he hb
  by_cases hjk : j = k
  · subst hjk
    rw [ho] at hk; cases hk
    exact getD_set_true (hall e he hb)
  · rw [getD_set_ne false hjk] at hl
    exact getD_set_true (hc k ok hk hl e he hb)
theorem not_ready {listed : Array Bool} (hc : ClosedL md ops listed) {n i : Nat} (hw : waits md ops n m i = true) (hi : listed.getD i false = false) : m ∉ Region.ready md ops listed := by
  intro hm
  have h1 := hc.step hm
  have h2 : (listed.setIfInBounds m true).getD m false = true := by
    obtain ⟨h0, _⟩ := mem_ready.1 hm
    have hlt : m < listed.size := by
      rcases Nat.lt_or_ge m listed.size with h' | h'
      · exact h'
      · simp [Array.getElem?_eq_none h'] at h0
    simp [hlt]
  have h3 := h1.of_waits n m i h2 hw
  by_cases hmi : m = i
  · subst hmi
    obtain ⟨_, o, ho, hall⟩ := mem_ready.1 hm
    cases n with
    | zero => simp [waits] at hw
    | succ n =>
      simp only [waits, ho, Option.map_some, Option.getD_some, Array.any_eq_true', Bool.and_eq_true, Bool.or_eq_true, beq_iff_eq] at hw
      obtain ⟨e, he, hb, h⟩ := hw
      have h4 := hall e he hb
      rcases h with rfl | h
      · rw [hi] at h4; cases h4
      · have := hc.of_waits n _ _ h4 h
        rw [hi] at this; cases this
  · rw [getD_set_ne false hmi, hi] at h3
    cases h3

/-- Whatever order is picked from here on, and S holds behind each operation as long as m has not come up. -/
def wpAnyL (P : Program) (md : Region.Mode) (ops : Array Oper) (Q : Exit → Act → World → Prop) (S : World → Prop) (m : Nat) : Nat → Array Bool → Act → World → Prop
  | 0, listed, a, w => Region.ready md ops listed = [] ∧ Q .normal a w
  | fuel + 1, listed, a, w =>
    (Region.ready md ops listed = [] → Q .normal a w) ∧
    ∀ i ∈ Region.ready md ops listed, wpOp P ops Q i (fun a' w' => ((listed.setIfInBounds i true).getD m true = false → S w') ∧ wpAnyL P md ops Q S m fuel (listed.setIfInBounds i true) a' w') a w
theorem wpAny_of_L : ∀ (fuel : Nat) (listed : Array Bool) (a : Act) (w : World), wpAnyL P md ops Q S m fuel listed a w → wpAny P md ops Q fuel listed a w
  | 0, _, _, _, h => h
  | fuel + 1, _, _, _, h => ⟨h.1, fun i hi => wpOp_mono (fun a' w' h' => wpAny_of_L fuel _ a' w' h'.2) (h.2 i hi)⟩

theorem wpAnyL_first {T : World → Prop} {i : Nat} {oi : Oper} {v : Value} (hi : ops[i]? = some oi) (hsel : ∀ (j : Nat) (o : Oper) cs b, ops[j]? = some o → o.op ≠ .select cs b)
    (hQ : ∀ c a w, Q (.panic c) (a.put oi.dst v) w → Q (.panic c) a w) (hmi : m ≠ i)
    (hT : (∀ w, T w) ∨ ((∀ w, S w → T w) ∧ ∃ n, waits md ops n m i = true)) :
    ∀ (fuel : Nat) (listed : Array Bool) (a : Act) (w : World), ClosedL md ops listed → ((∀ w, T w) ∨ listed.getD m true = false) →
      (∀ j oj, ops[j]? = some oj → j ≠ i → listed.getD j true = false → (∀ e ∈ oj.after, Region.binds md e = true → e.on ≠ i) → oi.apart ops oj = true) →
      i ∈ Region.ready md ops listed → YieldsIf P ops T oi v a → (listed.getD m true = false → S w) → T w →
      wpAnyL P md ops Q S m fuel (listed.setIfInBounds i true) (a.put oi.dst v) w → wpAnyL P md ops Q S m (fuel + 1) listed a w := by
  intro fuel
  induction fuel with
  | zero =>
    intro listed a w _ _ _ hr hy hS hTw H
    refine ⟨fun h => (by rw [h] at hr; cases hr), fun j hj => ?_⟩
    by_cases hji : j = i
    · subst hji; exact hy.wpOp hi hTw ⟨fun h => hS (by rwa [getD_set_ne true (Ne.symm hmi)] at h), H⟩
    · have := ready_mono hj hji
      rw [H.1] at this
      cases this
  | succ fuel ih =>
    intro listed a w hcl hmu hfree hr hy hS hTw H
    refine ⟨fun h => (by rw [h] at hr; cases hr), fun j hj => ?_⟩
    by_cases hji : j = i
    · subst hji; exact hy.wpOp hi hTw ⟨fun h => hS (by rwa [getD_set_ne true (Ne.symm hmi)] at h), H⟩
    · have h1 := H.2 j (ready_mono hj hji)
      obtain ⟨hjun, oj, hoj, hall⟩ := mem_ready.1 hj
      have hi0 : listed.getD i true = false := (mem_ready.1 hr).1
      have hi1 : listed.getD i false = false := by
        rcases Nat.lt_or_ge i listed.size with h' | h'
        · simp [h'] at hi0 ⊢; exact hi0
        · simp [Array.getElem?_eq_none h'] at hi0
      have hnot : ∀ e ∈ oj.after, Region.binds md e = true → e.on ≠ i := fun e he hb heq => by
        have h1 := hall e he hb
        rw [heq, hi1] at h1
        cases h1
      have h2 := wpOp_putIf hoj (hfree j oj hoj hji hjun hnot) (fun cs b => hsel i oi cs b hi) (fun cs b => hsel j oj cs b hoj) hQ hy h1
      have hfree' : ∀ k ok, ops[k]? = some ok → k ≠ i → (listed.setIfInBounds j true).getD k true = false →
          (∀ e ∈ ok.after, Region.binds md e = true → e.on ≠ i) → oi.apart ops ok = true := fun k ok hk hki hun hno => by
        refine hfree k ok hk hki ?_ hno
        by_cases hjk : j = k
        · subst hjk; exact hjun
        · rw [getD_set_ne true hjk] at hun; exact hun
      have hmu' : (∀ w, T w) ∨ (listed.setIfInBounds j true).getD m true = false := by
        rcases hT with hT | ⟨_, n, hw⟩
        · exact .inl hT
        · rcases hmu with h | h
          · exact .inl h
          · refine .inr ?_
            have hjm : j ≠ m := fun e => not_ready hcl hw hi1 (e ▸ hj)
            rw [getD_set_ne true hjm]; exact h
      refine wpOp_mono (fun a' w' h3 => ?_) h2
      obtain ⟨hy', hS', hrec⟩ := h3
      have hS'' : (listed.setIfInBounds j true).getD m true = false → S w' := fun h => hS' (by
        rw [Array.setIfInBounds_comm _ _ (Ne.symm hji), getD_set_ne true (Ne.symm hmi)]; exact h)
      have hT' : T w' := by
        rcases hT with hT | ⟨hT, _⟩
        · exact hT w'
        · rcases hmu' with h | h
          · exact h w'
          · exact hT w' (hS'' h)
      refine ⟨hS'', ih (listed.setIfInBounds j true) a' w' (hcl.step hj) hmu' hfree' (ready_mono hr (Ne.symm hji)) hy' hS'' hT' ?_⟩
      rw [Array.setIfInBounds_comm _ _ hji]
      exact hrec

/-! ### The walk in segments -/
/-- P: plain operations, in whatever world; L: the same and loads, in every world that meets S; K: one operation behind which S is shown; N: operations behind which nothing is shown. -/
inductive Seg where
  | P (is : List Nat)
  | L (is : List Nat)
  | K (i : Nat)
  | N (is : List Nat)

def pickOps (ops : Array Oper) (is : List Nat) : List Oper := is.filterMap fun i => ops[i]?
def NoExit : Exit → Act → World → Prop := fun _ _ _ => False
/-- Plain operations, one by one: each leaves the world; at the end the frame is A. -/
def wpPl (P : Program) (ops : Array Oper) (A : Act) (w : World) : List Oper → Act → Prop
  | [], a => a = A
  | o :: r, a => wpList P ops (Exit.then (fun a' w' => w' = w ∧ wpPl P ops A w r a') NoExit) [o] a w

def wpSig (P : Program) (ops : Array Oper) (n : Nat) (Q : Exit → Act → World → Prop) (S : World → Prop) : List Seg → Act → World → Prop
  | [], a, w => Q .normal a w
  | .P is :: r, a, w => n ≤ a.tmps.size ∧ ∃ A, (∀ w', wpPl P ops A w' (pickOps ops is) a) ∧ wpSig P ops n Q S r A w
  | .L is :: r, a, w => n ≤ a.tmps.size ∧ ∃ A, (∀ w', S w' → wpPl P ops A w' (pickOps ops is) a) ∧ wpSig P ops n Q S r A w
  | .K i :: r, a, w => wpList P ops (Exit.then (fun a w => S w ∧ wpSig P ops n Q S r a w) Q) (pickOps ops [i]) a w
  | .N is :: r, a, w => wpList P ops (Exit.then (fun a w => wpSig P ops n Q S r a w) Q) (pickOps ops is) a w

/-- Operations that give a value or end the run. -/
def plainOp : Op → Bool
  | .move _ | .assign _ | .pick .. | .load .. | .nilCheck _ | .binOp .. | .unOp .. | .convert .. | .slice .. | .fieldAddr .. | .field .. | .indexAddr .. | .index .. | .extract .. | .build .. | .makeInterface .. | .lookup .. => true
  | .call { callee := .builtin .len, .. } => true
  | .call { callee := .builtin .min, .. } => true
  | .call { callee := .builtin .max, .. } => true
  | _ => false

/-- Segments one after the other: what is listed behind them. -/
def chkL (md : Region.Mode) (ops : Array Oper) (m ntmps : Nat) (loads : Bool) : List Nat → Array Bool → Option (Array Bool)
  | [], listed => some listed
  | i :: is, listed =>
    if (Region.ready md ops listed).contains i && Region.free md ops listed i && (i != m) && (!loads || (!listed.getD m true && waits md ops ops.size m i)) &&
        ((ops[i]?).map fun o => plainOp o.op && (match o.dst with | some d => decide (d < ntmps) && is.all fun j => ((ops[j]?).map fun o' => o'.dst != some d).getD false | none => false)).getD false
    then chkL md ops m ntmps loads is (listed.setIfInBounds i true) else none
def chkN (md : Region.Mode) (ops : Array Oper) (m : Nat) : List Nat → Array Bool → Option (Array Bool)
  | [], listed => some listed
  | i :: is, listed => if (Region.ready md ops listed == [i]) && (listed.setIfInBounds i true).getD m true then chkN md ops m is (listed.setIfInBounds i true) else none
def chkSeg (md : Region.Mode) (ops : Array Oper) (m ntmps : Nat) : List Seg → Array Bool → Bool
  | [], listed => (Region.ready md ops listed).isEmpty
  | .P is :: r, listed => match chkL md ops m ntmps false is listed with | some l => chkSeg md ops m ntmps r l | none => false
  | .L is :: r, listed => !is.isEmpty && match chkL md ops m ntmps true is listed with | some l => chkSeg md ops m ntmps r l | none => false
  | .K i :: r, listed => (Region.ready md ops listed == [i]) && chkSeg md ops m ntmps r (listed.setIfInBounds i true)
  | .N is :: r, listed => !is.isEmpty && match chkN md ops m is listed with | some l => chkSeg md ops m ntmps r l | none => false

theorem run_value {s : Sem Value} {w w' : World} {n : Next} (h : (s.bind fun x => .pure (Next.value x)).run P w = .ok n w') : ∃ v, n = .value v := by
  have e : (s.bind fun x => .pure (Next.value x)) = (do let x ← s; pure (Next.value x)) := rfl
  rw [e, Sem.run_bind] at h
  cases hs : s.run P w with
  | ok v w1 => rw [hs] at h; simp at h; exact ⟨v, h.1.symm⟩
  | halt x w1 => rw [hs] at h; simp [Result.andThen] at h
theorem plain_value {ρ : Operand → Value} {o : Oper} (hp : plainOp o.op = true) {w w' : World} {n : Next} (h : (execOp ρ o).run P w = .ok n w') : ∃ v, n = .value v := by
  obtain ⟨dst, op, type, pos, after, guard⟩ := o
  cases op <;> simp only [plainOp, Bool.false_eq_true] at hp <;> simp only [execOp] at h
  case move x => simp at h; exact ⟨_, h.1.symm⟩
  case assign x => simp at h; exact ⟨_, h.1.symm⟩
  case pick c a b =>
    simp only [Sem.run_bind] at h
    cases hs : (asBool (ρ c)).run P w with
    | ok v w1 => rw [hs] at h; simp at h; exact ⟨_, h.1.symm⟩
    | halt x w1 => rw [hs] at h; simp [Result.andThen] at h
  case nilCheck x =>
    split at h
    · simp [runtimePanic, goPanic] at h
    · simp [runtimePanic, goPanic] at h
    · simp [runtimePanic, goPanic] at h
    · split at h
      · simp [runtimePanic, goPanic] at h
      · simp only [Sem.run_bind] at h
        cases h1 : (program).run P w with
        | halt x w1 => rw [h1] at h; simp [Result.andThen] at h
        | ok p w1 =>
          rw [h1] at h
          simp only [Result.andThen_ok] at h
          revert h
          generalize (nilAhead _ _ _ _).run P w1 = r
          intro h
          cases r with
          | halt x w2 => simp [Result.andThen] at h
          | ok b w2 =>
            simp only [Result.andThen_ok] at h
            split at h
            · simp [unsupported, Result.andThen] at h
            · simp at h; exact ⟨_, h.1.symm⟩
      · simp at h; exact ⟨_, h.1.symm⟩
    · simp at h; exact ⟨_, h.1.symm⟩
  case call c =>
    obtain ⟨callee, args, argTypes⟩ := c
    cases callee <;> try simp only [plainOp, Bool.false_eq_true] at hp
    rename_i b
    cases b <;> simp only [plainOp, Bool.false_eq_true] at hp
    all_goals exact run_value h
  all_goals exact run_value h

theorem pick_cons {i : Nat} {is : List Nat} {o : Oper} (h : ops[i]? = some o) : pickOps ops (i :: is) = o :: pickOps ops is := by simp [pickOps, h]
theorem noExit_out : ¬ LetsOut (Exit.then (fun (_ : Act) (_ : World) => False) NoExit) := by rintro ⟨a, w, h⟩; exact h
/-- One plain operation, walked in one world. -/
theorem plain_step {o : Oper} (hp : plainOp o.op = true) {K : Act → World → Prop} {a : Act} {w : World}
    (h : wpList P ops (Exit.then (fun a' w' => w' = w ∧ K a' w) NoExit) [o] a w) :
    (Region.wanted o (yielded ops a.tmps) = true ∧ ∃ v, (execOp a.eval o).run P w = .ok (.value v) w ∧ K (a.put o.dst v) w) ∨ (Region.wanted o (yielded ops a.tmps) = false ∧ K (a.put o.dst undef) w) := by
  unfold wpList at h
  split at h
  · rename_i hw
    refine .inl ⟨hw, ?_⟩
    rcases h with h | ⟨_, a', w', h⟩
    · unfold Oper.wp at h
      cases hr : (execOp a.eval o).run P w with
      | ok n w' =>
        obtain ⟨v, rfl⟩ := plain_value hp hr
        rw [hr] at h
        obtain ⟨rfl, hK⟩ : w' = w ∧ K (a.put o.dst v) w := h
        exact ⟨v, rfl, hK⟩
      | halt x w' =>
        rw [hr] at h
        cases x <;> exact h.elim
    · exact h.elim
  · rename_i hw
    obtain ⟨_, hK⟩ : w = w ∧ K (a.put o.dst undef) w := h
    exact .inr ⟨by simpa using hw, hK⟩

/-- Slots that a segment does not write stay. -/
theorem pl_keeps {A : Act} {w : World} {d : Nat} : ∀ (l : List Oper) (a : Act), (∀ o ∈ l, plainOp o.op = true ∧ o.dst ≠ some d) → wpPl P ops A w l a → A.tmps[d]? = a.tmps[d]?
  | [], a, _, h => by rw [show a = A from h]
  | o :: r, a, hl, h => by
    obtain ⟨hp, hd⟩ := hl o (by simp)
    have put_ne : ∀ v, (a.put o.dst v).tmps[d]? = a.tmps[d]? := fun v => by
      cases ho : o.dst with
      | none => rfl
      | some e => simp [Act.put, Array.getElem?_setIfInBounds_ne (show e ≠ d from fun he => hd (by rw [ho, he]))]
    have rec_ := fun v (hv : wpPl P ops A w r (a.put o.dst v)) => pl_keeps r (a.put o.dst v) (fun o' ho' => hl o' (by simp [ho'])) hv
    rcases plain_step (K := fun a' w => wpPl P ops A w r a') hp h with ⟨_, v, _, hK⟩ | ⟨_, hK⟩
    · rw [rec_ _ hK, put_ne]
    · rw [rec_ _ hK, put_ne]

/-- In every world that meets T the segment's first operation gives one and the same value. -/
theorem pl_first {T : World → Prop} {A : Act} {o : Oper} {r : List Oper} {a : Act} {d : Nat} (hp : plainOp o.op = true) (hd : o.dst = some d) (hlt : d < a.tmps.size) (hl : ∀ o' ∈ r, plainOp o'.op = true ∧ o'.dst ≠ some d)
    (hT : ∃ w, T w) (h : ∀ w, T w → wpPl P ops A w (o :: r) a) : ∃ v, YieldsIf P ops T o v a ∧ ∀ w, T w → wpPl P ops A w r (a.put o.dst v) := by
  have slot : ∀ v, (a.put o.dst v).tmps[d]? = some v := fun v => by simp [Act.put, hd, hlt]
  obtain ⟨w0, hw0⟩ := hT
  by_cases hw : Region.wanted o (yielded ops a.tmps) = true
  · have each : ∀ w, T w → (execOp a.eval o).run P w = .ok (.value (A.tmps[d]?.getD undef)) w ∧ wpPl P ops A w r (a.put o.dst (A.tmps[d]?.getD undef)) := by
      intro w hTw
      rcases plain_step (K := fun a' w => wpPl P ops A w r a') hp (h w hTw) with ⟨_, v, hr, hK⟩ | ⟨hn, _⟩
      · have e := pl_keeps r _ hl hK
        rw [slot v] at e
        rw [e]
        exact ⟨hr, hK⟩
      · rw [hw] at hn; cases hn
    exact ⟨_, .inl ⟨hw, fun w hTw => (each w hTw).1⟩, fun w hTw => (each w hTw).2⟩
  · refine ⟨undef, .inr ⟨by simpa using hw, rfl⟩, fun w hTw => ?_⟩
    rcases plain_step (K := fun a' w => wpPl P ops A w r a') hp (h w hTw) with ⟨hn, _⟩ | ⟨_, hK⟩
    · exact absurd hn hw
    · exact hK

theorem size_put (a : Act) (d : Option Tmp) (v : Value) : (a.put d v).tmps.size = a.tmps.size := by cases d <;> simp [Act.put]

theorem chkL_spec {ntmps : Nat} {loads : Bool} {i : Nat} {is : List Nat} {listed l : Array Bool} (h : chkL md ops m ntmps loads (i :: is) listed = some l) :
    ∃ o d, ops[i]? = some o ∧ o.dst = some d ∧ d < ntmps ∧ plainOp o.op = true ∧ i ∈ Region.ready md ops listed ∧ Region.free md ops listed i = true ∧ m ≠ i ∧ (loads = true → listed.getD m true = false ∧ waits md ops ops.size m i = true) ∧
      (∀ o' ∈ pickOps ops is, o'.dst ≠ some d) ∧ chkL md ops m ntmps loads is (listed.setIfInBounds i true) = some l := by
  unfold chkL at h
  split at h
  · rename_i hc
    simp only [Bool.and_eq_true, List.contains_iff_mem, bne_iff_ne, ne_eq, Bool.or_eq_true, Bool.not_eq_true'] at hc
    obtain ⟨⟨⟨⟨h1, h2⟩, h3⟩, h4⟩, h5⟩ := hc
    cases ho : ops[i]? with
    | none => simp [ho] at h5
    | some o =>
      cases hd : o.dst with
      | none => simp [ho, hd] at h5
      | some d =>
        simp only [ho, hd, Option.map_some, Option.getD_some, Bool.and_eq_true, decide_eq_true_eq, List.all_eq_true] at h5
        refine ⟨o, d, rfl, hd, h5.2.1, h5.1, h1, h2, fun e => h3 e.symm, fun hl => ?_, ?_, h⟩
        · rcases h4 with h4 | h4
          · rw [hl] at h4; cases h4
          · exact h4
        · intro o' ho'
          obtain ⟨j, hj, hjo⟩ := List.mem_filterMap.1 ho'
          have := h5.2.2 j hj
          simpa [hjo] using this
  · cases h
theorem chkL_plain {ntmps : Nat} {loads : Bool} : ∀ {is : List Nat} {listed l : Array Bool}, chkL md ops m ntmps loads is listed = some l → ∀ o ∈ pickOps ops is, plainOp o.op = true
  | [], _, _, _ => fun o ho => by simp [pickOps] at ho
  | i :: is, listed, l, h => fun o ho => by
    obtain ⟨o1, d, hi, _, _, hp, _, _, _, _, _, hrest⟩ := chkL_spec h
    rw [pick_cons hi] at ho
    rcases List.mem_cons.1 ho with rfl | ho
    · exact hp
    · exact chkL_plain hrest o ho

theorem chkL_m {ntmps : Nat} {loads : Bool} : ∀ {is : List Nat} {listed l : Array Bool}, chkL md ops m ntmps loads is listed = some l → l.getD m true = listed.getD m true
  | [], listed, l, h => by simp only [chkL, Option.some.injEq] at h; rw [h]
  | i :: is, listed, l, h => by
    obtain ⟨o1, d, hi, _, _, hp, _, _, hmi, _, _, hrest⟩ := chkL_spec h
    rw [chkL_m hrest, getD_set_ne true (Ne.symm hmi)]

theorem seg_plain {ntmps : Nat} {loads : Bool} {T : World → Prop} (hsel : ∀ (j : Nat) (o : Oper) cs b, ops[j]? = some o → o.op ≠ .select cs b) (hQ : ∀ (c : _) (a : Act) (d : Option Tmp) (v : Value) (w : World), Q (.panic c) (a.put d v) w → Q (.panic c) a w)
    (hT : (loads = false ∧ ∀ w, T w) ∨ (loads = true ∧ ∀ w, S w → T w)) {A : Act} {l : Array Bool} {w : World} (hSl : l.getD m true = false → S w) (hTw : T w) :
    ∀ (is : List Nat) (listed : Array Bool) (a : Act) (fuel : Nat), ClosedL md ops listed → (listed.getD m true = false → S w) → ntmps ≤ a.tmps.size → chkL md ops m ntmps loads is listed = some l → (∀ w', T w' → wpPl P ops A w' (pickOps ops is) a) →
      (ClosedL md ops l → wpAnyL P md ops Q S m fuel l A w) → wpAnyL P md ops Q S m (fuel + is.length) listed a w := by
  intro is
  induction is with
  | nil =>
    intro listed a fuel hcl hS hsz hchk hpl hend
    simp only [chkL, Option.some.injEq] at hchk
    subst hchk
    have e : a = A := hpl w hTw
    subst e
    exact hend hcl
  | cons i is ih =>
    intro listed a fuel hcl hS hsz hchk hpl hend
    obtain ⟨o, d, hi, hd, hlt, hp, hr, hfree, hmi, hl, hds, hrest⟩ := chkL_spec hchk
    rw [pick_cons hi] at hpl
    have hlt' : d < a.tmps.size := Nat.lt_of_lt_of_le hlt hsz
    obtain ⟨v, hy, hpl'⟩ := pl_first (T := T) hp hd hlt' (fun o' ho' => ⟨chkL_plain hrest o' ho', hds o' ho'⟩) ⟨w, hTw⟩ hpl
    refine wpAnyL_first (T := T) hi hsel (fun c a w => hQ c a _ _ w) hmi ?_ (fuel + is.length) listed a w hcl ?_ (Region.free_spec hi hfree) hr hy hS hTw ?_
    · rcases hT with ⟨_, h⟩ | ⟨h1, h⟩
      · exact .inl h
      · exact .inr ⟨h, _, (hl h1).2⟩
    · rcases hT with ⟨_, h⟩ | ⟨h1, h⟩
      · exact .inl h
      · exact .inr (hl h1).1
    · exact ih (listed.setIfInBounds i true) (a.put o.dst v) fuel (hcl.step hr) (fun h => hS (by rwa [getD_set_ne true (Ne.symm hmi)] at h)) (by rw [size_put]; exact hsz) hrest hpl' hend

def segLen : List Seg → Nat
  | [] => 0
  | .P is :: r => is.length + segLen r
  | .L is :: r => is.length + segLen r
  | .K _ :: r => 1 + segLen r
  | .N is :: r => is.length + segLen r


theorem chkN_spec {i : Nat} {is : List Nat} {listed l : Array Bool} (h : chkN md ops m (i :: is) listed = some l) :
    Region.ready md ops listed = [i] ∧ (listed.setIfInBounds i true).getD m true = true ∧ chkN md ops m is (listed.setIfInBounds i true) = some l := by
  unfold chkN at h
  split at h
  · rename_i hc
    simp only [Bool.and_eq_true, beq_iff_eq] at hc
    exact ⟨hc.1, hc.2, h⟩
  · cases h
theorem chkN_m : ∀ {is : List Nat} {listed l : Array Bool}, chkN md ops m is listed = some l → is ≠ [] → l.getD m true = true
  | [], _, _, _, h => absurd rfl h
  | [i], listed, l, h, _ => by
    obtain ⟨_, h2, h3⟩ := chkN_spec h
    simp only [chkN, Option.some.injEq] at h3
    rw [← h3]; exact h2
  | i :: j :: is, listed, l, h, _ => chkN_m (chkN_spec h).2.2 (by simp)
theorem ready_op {i : Nat} {listed : Array Bool} (h : Region.ready md ops listed = [i]) : ∃ o, ops[i]? = some o := by
  have : i ∈ Region.ready md ops listed := by rw [h]; simp
  obtain ⟨_, o, ho, _⟩ := mem_ready.1 this
  exact ⟨o, ho⟩
/-- One operation out of a list, as the region takes it. -/
theorem wpOp_of_list {i : Nat} {o : Oper} {r : List Oper} {K : Act → World → Prop} {a : Act} {w : World} (hi : ops[i]? = some o) (hout : ∀ R, LetsOut (Exit.then R Q) → LetsOut Q)
    (h : wpList P ops (Exit.then K Q) (o :: r) a w) : wpOp P ops Q i (fun a w => wpList P ops (Exit.then K Q) r a w) a w := by
  unfold wpList at h
  unfold wpOp
  simp only [hi]
  split
  · rename_i hw
    rw [if_pos hw] at h
    rcases h with h | ⟨h1, h2⟩
    · refine .inl ?_
      unfold Oper.wp at h ⊢
      generalize (execOp a.eval o).run P w = res at h ⊢
      cases res with
      | ok n w' =>
        cases n <;> simp only [Oper.upon] at h ⊢ <;>
          first
            | exact h
            | exact Calls.mono h (fun e w'' he => by cases e <;> first | exact he | exact hout _ he)
      | halt x w' => cases x <;> simp only [Oper.upon] at h ⊢ <;> exact h
    · exact .inr ⟨h1, hout _ h2⟩
  · rename_i hw
    rw [if_neg hw] at h
    exact h
theorem seg_n (hout : ∀ R, LetsOut (Exit.then R Q) → LetsOut Q) {K : Act → World → Prop} {l : Array Bool} :
    ∀ (is : List Nat) (listed : Array Bool) (a : Act) (w : World) (fuel : Nat), ClosedL md ops listed → chkN md ops m is listed = some l → wpList P ops (Exit.then K Q) (pickOps ops is) a w →
      (∀ a w, ClosedL md ops l → K a w → wpAnyL P md ops Q S m fuel l a w) → (is = [] → listed.getD m true = true ∨ True) → wpAnyL P md ops Q S m (fuel + is.length) listed a w := by
  intro is
  induction is with
  | nil =>
    intro listed a w fuel hcl hchk h hend _
    simp only [chkN, Option.some.injEq] at hchk
    subst hchk
    exact hend a w hcl h
  | cons i is ih =>
    intro listed a w fuel hcl hchk h hend _
    obtain ⟨hr, hm, hrest⟩ := chkN_spec hchk
    obtain ⟨o, ho⟩ := ready_op hr
    rw [pick_cons ho] at h
    refine ⟨fun e => (by rw [hr] at e; cases e), fun j hj => ?_⟩
    rw [hr] at hj
    obtain rfl : j = i := by simpa using hj
    refine wpOp_mono (fun a' w' h' => ⟨fun e => (by rw [hm] at e; cases e), ?_⟩) (wpOp_of_list ho hout h)
    exact ih _ a' w' fuel (hcl.step (by rw [hr]; simp)) hrest h' hend (fun _ => .inr trivial)

theorem sig_sound {n : Nat} (hsel : ∀ (j : Nat) (o : Oper) cs b, ops[j]? = some o → o.op ≠ .select cs b) (hQ : ∀ (c : _) (a : Act) (d : Option Tmp) (v : Value) (w : World), Q (.panic c) (a.put d v) w → Q (.panic c) a w)
    (hout : ∀ R, LetsOut (Exit.then R Q) → LetsOut Q) :
    ∀ (segs : List Seg) (listed : Array Bool) (a : Act) (w : World), ClosedL md ops listed → (listed.getD m true = false → S w) → chkSeg md ops m n segs listed = true → wpSig P ops n Q S segs a w → wpAnyL P md ops Q S m (segLen segs) listed a w
  | [], listed, a, w, hcl, hS, hchk, h => ⟨by simpa [chkSeg] using hchk, h⟩
  | .P is :: r, listed, a, w, hcl, hS, hchk, h => by
    obtain ⟨hn, A, hpl, hrest⟩ := h
    simp only [chkSeg] at hchk
    split at hchk
    · rename_i l hl
      rw [show segLen (.P is :: r) = segLen r + is.length from Nat.add_comm _ _]
      have hml : l.getD m true = false → listed.getD m true = false := fun h => (chkL_m hl).symm.trans h
      exact seg_plain (T := fun _ => True) hsel hQ (.inl ⟨rfl, fun _ => trivial⟩) (fun h => hS (hml h)) trivial is listed a (segLen r) hcl hS hn hl (fun w' _ => hpl w') fun hcl' => sig_sound hsel hQ hout r l A w hcl' (fun h => hS (hml h)) hchk hrest
    · cases hchk
  | .L is :: r, listed, a, w, hcl, hS, hchk, h => by
    obtain ⟨hn, A, hpl, hrest⟩ := h
    simp only [chkSeg, Bool.and_eq_true, Bool.not_eq_true', List.isEmpty_eq_false_iff] at hchk
    obtain ⟨hne, hchk⟩ := hchk
    split at hchk
    · rename_i l hl
      rw [show segLen (.L is :: r) = segLen r + is.length from Nat.add_comm _ _]
      have hml : l.getD m true = false → listed.getD m true = false := fun h => (chkL_m hl).symm.trans h
      cases is with
      | nil => exact absurd rfl hne
      | cons i is =>
        have hSw : S w := hS ((chkL_spec hl).choose_spec.choose_spec.2.2.2.2.2.2.2.1 rfl).1
        exact seg_plain (T := S) hsel hQ (.inr ⟨rfl, fun _ h => h⟩) (fun h => hS (hml h)) hSw (i :: is) listed a (segLen r) hcl hS hn hl hpl fun hcl' => sig_sound hsel hQ hout r l A w hcl' (fun h => hS (hml h)) hchk hrest
    · cases hchk
  | .K i :: r, listed, a, w, hcl, hS, hchk, h => by
    simp only [chkSeg, Bool.and_eq_true, beq_iff_eq] at hchk
    obtain ⟨hr, hchk⟩ := hchk
    obtain ⟨o, ho⟩ := ready_op hr
    have h' : wpList P ops (Exit.then (fun a w => S w ∧ wpSig P ops n Q S r a w) Q) (pickOps ops [i]) a w := h
    rw [pick_cons ho] at h'
    rw [show segLen (.K i :: r) = segLen r + 1 from Nat.add_comm _ _]
    refine ⟨fun e => (by rw [hr] at e; cases e), fun j hj => ?_⟩
    rw [hr] at hj
    obtain rfl : j = i := by simpa using hj
    refine wpOp_mono (fun a' w' h' => ?_) (wpOp_of_list ho hout h')
    obtain ⟨hS', hrest⟩ : S w' ∧ wpSig P ops n Q S r a' w' := h'
    exact ⟨fun _ => hS', sig_sound hsel hQ hout r _ a' w' (hcl.step (by rw [hr]; simp)) (fun _ => hS') hchk hrest⟩
  | .N is :: r, listed, a, w, hcl, hS, hchk, h => by
    simp only [chkSeg, Bool.and_eq_true, Bool.not_eq_true', List.isEmpty_eq_false_iff] at hchk
    obtain ⟨hne, hchk⟩ := hchk
    split at hchk
    · rename_i l hl
      rw [show segLen (.N is :: r) = segLen r + is.length from Nat.add_comm _ _]
      have hml := chkN_m hl hne
      exact seg_n (K := fun a w => wpSig P ops n Q S r a w) hout is listed a w (segLen r) hcl hl h (fun a' w' hcl' hK => sig_sound hsel hQ hout r l a' w' hcl' (fun e => by rw [hml] at e; cases e) hchk hK) (fun _ => .inr trivial)
    · cases hchk

/-- **A region that draws its order, walked in one order.** segs: the segments; m: the operation behind which S need no longer hold; the checks by the kernel. -/
theorem wp_region_sig {id : Nat} {a : Act} {w : World} (m : Nat) (S : World → Prop) (segs : List Seg) (hm : P.follows .mixedOrders = true) (hQ : ∀ (c : _) (a : Act) (d : Option Tmp) (v : Value) (w : World), Q (.panic c) (a.put d v) w → Q (.panic c) a w)
    (hout : ∀ R, LetsOut (Exit.then R Q) → LetsOut Q)
    (hchk : (Region.noSelect ops && (segLen segs == ops.size) && chkSeg .any ops m a.tmps.size segs (Array.replicate ops.size false)) = true)
    (hS : S w.drew) (h : wpSig P ops a.tmps.size Q S segs a w.drew) : (Code.region id ops true).wp P Q a w := by
  simp only [Bool.and_eq_true, beq_iff_eq] at hchk
  obtain ⟨⟨h1, h2⟩, h3⟩ := hchk
  refine wp_region_any hm ?_
  have hcl : ClosedL .any ops (Array.replicate ops.size false) := by
    intro j o _ hl
    rcases Nat.lt_or_ge j ops.size with h' | h'
    · simp [h'] at hl
    · simp [Array.getElem?_eq_none, h'] at hl
  have := sig_sound (md := .any) (S := S) (m := m) (Region.noSelect_spec h1) hQ hout segs _ a w.drew hcl (fun _ => hS) h3 h
  rw [h2] at this
  exact wpAny_of_L _ _ _ _ this
/-! 'apply sigP (Nat.le_refl _)' leaves the segment's walk, what follows, and (met by the first) the frame A. -/
theorem sigP {n : Nat} {is : List Nat} {r : List Seg} {a A : Act} {w : World} (hn : n ≤ a.tmps.size) (h1 : ∀ w', wpPl P ops A w' (pickOps ops is) a) (h2 : wpSig P ops n Q S r A w) : wpSig P ops n Q S (.P is :: r) a w := ⟨hn, A, h1, h2⟩
theorem sigL {n : Nat} {is : List Nat} {r : List Seg} {a A : Act} {w : World} (hn : n ≤ a.tmps.size) (h1 : ∀ w', S w' → wpPl P ops A w' (pickOps ops is) a) (h2 : wpSig P ops n Q S r A w) : wpSig P ops n Q S (.L is :: r) a w := ⟨hn, A, h1, h2⟩
theorem sigK {n : Nat} {i : Nat} {r : List Seg} {a : Act} {w : World} (h : wpList P ops (Exit.then (fun a w => S w ∧ wpSig P ops n Q S r a w) Q) (pickOps ops [i]) a w) : wpSig P ops n Q S (.K i :: r) a w := h
theorem sigN {n : Nat} {is : List Nat} {r : List Seg} {a : Act} {w : World} (h : wpList P ops (Exit.then (fun a w => wpSig P ops n Q S r a w) Q) (pickOps ops is) a w) : wpSig P ops n Q S (.N is :: r) a w := h
theorem sigEnd {n : Nat} {a : Act} {w : World} (h : Q .normal a w) : wpSig P ops n Q S [] a w := h
end
end Go.Proofs.Ytccppjhkffmnaaa
