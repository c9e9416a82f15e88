/- An EDU by value: its cells, and when two are the same. -/
import Derived.Test.YtccppjhkffmnaaaAround
import Derived.Test.YtccppjhkffmnaaaSig
namespace Go.Proofs.Ytccppjhkffmnaaa
set_option linter.unusedVariables false
set_option linter.unusedSimpArgs false
open Go.RowKit

structure Edu where
  kind : Int
  room : ByteArray
  user : ByteArray
  event : ByteArray
  thread : ByteArray
  priv : Bool
  isOn : Bool
  span : Int
  state : Int
  tick : Int
  stamp : Int
deriving DecidableEq, Inhabited
def Edu.cells (e : Edu) : List Value := [.int .i64 e.kind, .string e.room, .string e.user, .string e.event, .string e.thread, .bool e.priv, .bool e.isOn, .int .i64 e.span, .int .i64 e.state, .int .i64 e.tick, .int .i64 e.stamp]
abbrev Edu.agg (e : Edu) : Value := .agg #[.int .i64 e.kind, .string e.room, .string e.user, .string e.event, .string e.thread, .bool e.priv, .bool e.isOn, .int .i64 e.span, .int .i64 e.state, .int .i64 e.tick, .int .i64 e.stamp]
abbrev Edu.arr (e : Edu) : Array Value := #[.int .i64 e.kind, .string e.room, .string e.user, .string e.event, .string e.thread, .bool e.priv, .bool e.isOn, .int .i64 e.span, .int .i64 e.state, .int .i64 e.tick, .int .i64 e.stamp]
abbrev zarr : Array Value := #[.int .i64 0, .string ⟨#[]⟩, .string ⟨#[]⟩, .string ⟨#[]⟩, .string ⟨#[]⟩, .bool false, .bool false, .int .i64 0, .int .i64 0, .int .i64 0, .int .i64 0]
def Edu.zero : Edu := ⟨0, ⟨#[]⟩, ⟨#[]⟩, ⟨#[]⟩, ⟨#[]⟩, false, false, 0, 0, 0, 0⟩

theorem zero_agg : Edu.zero.agg = .agg zarr := rfl
theorem toList_ne {a b : ByteArray} (h : a ≠ b) : (a.toList == b.toList) = false := by
  rw [Bool.eq_false_iff]
  intro e
  rw [beq_iff_eq, ByteArray.toList_eq, ByteArray.toList_eq] at e
  exact h (WideShapes.bytes_inj e)
theorem toList_eq {a b : ByteArray} (h : a = b) : (a.toList == b.toList) = true := by rw [h]; exact beq_self_eq_true _
theorem toList_dec (a b : ByteArray) : (a.toList == b.toList) = decide (a = b) := by
  by_cases h : a = b
  · rw [toList_eq h, decide_eq_true h]
  · rw [toList_ne h, decide_eq_false h]

theorem tl_iff (a b : ByteArray) : a.toList = b.toList ↔ a = b := by
  constructor
  · intro e
    rw [ByteArray.toList_eq, ByteArray.toList_eq] at e
    exact WideShapes.bytes_inj e
  · intro h; rw [h]
theorem ite_dec (p : Prop) [Decidable p] (w : World) : (if p then Result.ok (Value.bool true) w else Result.ok (Value.bool false) w) = Result.ok (Value.bool (decide p)) w := by
  by_cases h : p <;> simp [h]
theorem ite_step (p q : Prop) [Decidable p] [Decidable q] (w : World) (X : Result Value) (hx : X = Result.ok (Value.bool (decide q)) w) : (if p then X else Result.ok (Value.bool false) w) = Result.ok (Value.bool (decide (p ∧ q))) w := by
  by_cases h : p <;> simp [h, hx]
theorem guard32 : Try.prog.eqGuardType Try.prog.depth 32 = false := by kernel_rfl
theorem eqlE (e f : Edu) (w : World) : (binOp .eql 32 e.agg f.agg).run Try.prog w = .ok (.bool (decide (e = f))) w := by
  obtain ⟨a0, a1, a2, a3, a4, a5, a6, a7, a8, a9, a10⟩ := e
  obtain ⟨b0, b1, b2, b3, b4, b5, b6, b7, b8, b9, b10⟩ := f
  have ht : Try.prog.underlying 32 = some (.struct (Try.prog.fieldsOf 32)) := by kernel_rfl
  have hp : Try.prog.stoodInHeld 32 = false := by kernel_rfl
  rw [run_eql_struct, run_equalIn_struct w 9999 32 _ _ ht hp]
  have hfs : (Try.prog.fieldsOf 32).toList.map (fun f => (f.name, f.type, f.offset)) = [("Kind", 3, 0), ("Room", 9, 1), ("User", 9, 2), ("Event", 9, 3), ("Thread", 9, 4), ("Private", 4, 5), ("On", 4, 6), ("Span", 3, 7), ("State", 3, 8), ("Tick", 3, 9), ("Stamp", 3, 10)] := by kernel_rfl
  generalize (Try.prog.fieldsOf 32).toList = fs at hfs
  rcases fs with _ | ⟨f0, _ | ⟨f1, _ | ⟨f2, _ | ⟨f3, _ | ⟨f4, _ | ⟨f5, _ | ⟨f6, _ | ⟨f7, _ | ⟨f8, _ | ⟨f9, _ | ⟨f10, _ | ⟨f11, fs⟩⟩⟩⟩⟩⟩⟩⟩⟩⟩⟩⟩ <;> simp only [List.map_cons, List.map_nil, List.cons.injEq, Prod.mk.injEq, reduceCtorEq, and_false, and_true, false_and] at hfs
  obtain ⟨⟨n0, t0, o0⟩, ⟨n1, t1, o1⟩, ⟨n2, t2, o2⟩, ⟨n3, t3, o3⟩, ⟨n4, t4, o4⟩, ⟨n5, t5, o5⟩, ⟨n6, t6, o6⟩, ⟨n7, t7, o7⟩, ⟨n8, t8, o8⟩, ⟨n9, t9, o9⟩, ⟨n10, t10, o10⟩⟩ := hfs
  simp [Op.eqFields, n0, t0, o0, n1, t1, o1, n2, t2, o2, n3, t3, o3, n4, t4, o4, n5, t5, o5, n6, t6, o6, n7, t7, o7, n8, t8, o8, n9, t9, o9, n10, t10, o10, go_sem, Try.underlying3, Try.underlying9, Try.underlying4]
  simp only [tl_iff, ← Bool.decide_and]
  iterate 10 refine ite_step _ _ _ _ ?_
  exact ite_dec _ _
theorem neqE (e f : Edu) (w : World) : (binOp .neq 32 e.agg f.agg).run Try.prog w = .ok (.bool (!decide (e = f))) w := by
  have h := eqlE e f w
  rw [run_eql_struct] at h
  rw [run_neq_struct]
  revert h
  generalize (Op.equalIn 10000 32 _ _).run Try.prog w = r
  cases r with
  | ok b w' =>
    intro h
    simp only [Result.andThen_ok] at h ⊢
    injection h with h1 h2
    injection h1 with h1
    rw [h1, h2]
  | halt x w' => intro h; simp [Result.andThen] at h
end Go.Proofs.Ytccppjhkffmnaaa
