/- 'errors.Is' at a spot, for the code that it holds: true. -/
import Derived.Test.YtdngljdbgepaiaaGreatDoorProg
import Derived.WalkKit
import Derived.LaidEql
import Derived.Stop.Asserts
import Derived.RowKitTokens
import Derived.Test.YtdngljdbgepaiaaGreatDoorEvB
namespace Go.Proofs.YtdngljdbgepaiaaGreatDoor
open Go.RowKit Go.Extern.Stop Go.Stop Go.Extern

theorem Is.typeOf (v : Value) (w : World) : (Extern.ReflectliteType.typeOf #[.iface 42 v]).run Tryz.prog w = .ok (.iface 105 (.agg #[.pointer (some ⟨3, 42, none⟩)])) w := by kernel_rfl
theorem Is.comparable (w : World) : ((Extern.ReflectliteType.method fun t => do Extern.Rtype.noPackHeld "Comparable" t; (fun a => Value.bool a.comparable) <$> typeInfo t) #[.agg #[.pointer (some ⟨3, 42, none⟩)]]).run Tryz.prog w = .ok (.bool true) w := by kernel_rfl
theorem Is.methodComparable (v : Value) (w : World) : (Go.method 270 105 v "Comparable").run Tryz.prog w = .ok (120, v) w := by kernel_rfl
theorem Is.comp : (Tryz.prog.info? 42).map (·.comparable) = some true := by kernel_rfl
theorem Is.noIsW (v : Value) (xT : TypeId) (w : World) : (Instr.typeAssert (.iface 58 v) xT 117 true).run Tryz.prog w = .ok (.tuple #[.nilIface, .bool false]) w := run_typeAssert_lacksB Tryz.underlying117 (by kernel_rfl) (by kernel_rfl) v xT w
theorem Is.hasUnwrapW (v : Value) (xT : TypeId) (w : World) : (Instr.typeAssert (.iface 58 v) xT 112 true).run Tryz.prog w = .ok (.tuple #[.iface 58 v, .bool true]) w := run_typeAssert_hasB Tryz.underlying112 (by kernel_rfl) v xT w
theorem Is.methodUnwrap (v : Value) (w : World) : (Go.method 270 58 v "Unwrap").run Tryz.prog w = .ok (114, v) w := by kernel_rfl
theorem Is.eq42 (c : Int) (w : World) : (binOp .eql 30 (.iface 42 (.int .i64 c)) (.iface 42 (.int .i64 c))).run Tryz.prog w = .ok (.bool true) w := by
  obtain ⟨i, hi, hcmp⟩ := Option.map_eq_some_iff.1 Is.comp
  exact Go.Ev.binV_run (tk := .iface 42 false) (cst := false) (by simp [Go.Ev.binV, Go.Ev.eqIface, Go.Ev.negIf]) ⟨⟨_, Tryz.underlying30⟩, ⟨_, Tryz.underlying42⟩, ⟨i, hi, hcmp⟩, fun h => by cases h⟩

theorem is_hit (pb po : Nat) (c : Int) (w : World) (h1 : w.cell? ⟨pb, po + 1, none⟩ = some (.iface 42 (.int .i64 c))) :
    Calls Tryz.prog 30 #[.iface 58 (.pointer (some ⟨pb, po, none⟩)), .iface 42 (.int .i64 c)] w fun e w' => e = .returned (.bool true) ∧ w' = w := by
  have h8 := @run_callFunc_extern Tryz.prog 48 _ Extern.ReflectliteType.typeOf Tryz.func48 (by kernel_rfl) (by kernel_rfl) (by kernel_rfl) (by kernel_rfl)
  have h32 := @run_callFunc_extern Tryz.prog 120 _ (Extern.ReflectliteType.method fun t => do Extern.Rtype.noPackHeld "Comparable" t; pure (.bool (← typeInfo t).comparable)) Tryz.func120 (by kernel_rfl) (by kernel_rfl) (by kernel_rfl) (by kernel_rfl)
  have tT := Is.typeOf
  have cT := Is.comparable
  have mR := Is.methodComparable
  have nW := Is.noIsW
  have uW := Is.hasUnwrapW
  have mU := Is.methodUnwrap
  have heq := Is.eq42 c w
  have hty := run_eql_iface_types (P := Tryz.prog) 58 42 (.pointer (some ⟨pb, po, none⟩)) (.int .i64 c) Tryz.underlying30 (by decide) w
  go_enter Tryz.func30, Tryz.ntmps30
  go_wp2
  refine wp_loop_rounds 2 ?_
  rw [rounds_succ]
  go_wp2
  rw [rounds_succ]
  go_wp2
  go_ret
  exact ⟨rfl, rfl⟩
end Go.Proofs.YtdngljdbgepaiaaGreatDoor
