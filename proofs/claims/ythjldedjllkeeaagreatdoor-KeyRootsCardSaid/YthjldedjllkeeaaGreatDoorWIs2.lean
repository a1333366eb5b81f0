/- The walk of errors.Is at no error. -/
import Derived.Test.YthjldedjllkeeaaGreatDoorWTrim
import Derived.Stop.Asserts
import Derived.LaidEql
import Derived.RowKitTokens
set_option linter.unusedVariables false
namespace Go.Proofs.YthjldedjllkeeaaGreatDoor
open Go.RowKit Go.Extern.Stop Go.Stop Go.Extern
theorem run_eql_nil_iface {P : Program} {ti : TypeId} {ms : Array (String × TypeId)} (ty : TypeId) (vy : Value) (hi : P.underlying ti = some (.interface ms)) (w : World) :
    (binOp .eql ti .nilIface (.iface ty vy)).run P w = .ok (.bool false) w := by
  have h : ∀ d : Nat, (Op.equalIn (d + 1) ti .nilIface (.iface ty vy)).run P w = .ok false w := fun d => by simp [Op.equalIn, run_underlying hi]
  simp only [binOp]
  simp [Op.equal, Op.maxDepth, h 9999]
set_option maxRecDepth 100000 in
theorem is_nil (t : TypeId) (v : Value) (w : World) :
    Calls Tryz.prog 132 #[.nilIface, .iface t v] w fun e w' => e = .returned (.bool false) ∧ w = w' := by
  have heq : ∀ w, (binOp .eql 199 .nilIface (.iface t v)).run Tryz.prog w = .ok (.bool false) w := run_eql_nil_iface t v Tryz.underlying199
  go_enter Tryz.func132, Tryz.ntmps132
  go_wp2
  go_ret
  exact ⟨rfl, rfl⟩
theorem isTypeOf (v : Value) (w : World) : (Extern.ReflectliteType.typeOf #[.iface 298 v]).run Tryz.prog w = .ok (.iface 267 (.agg #[.pointer (some ⟨8, 298, none⟩)])) w := by kernel_rfl
theorem cmp_run (w : World) : (callFunc 242 #[.agg #[.pointer (some ⟨8, 298, none⟩)]]).run Tryz.prog w = .ok (.value (.bool true)) w := by kernel_rfl
theorem isComp : (Tryz.prog.info? 298).map (·.comparable) = some true := by kernel_rfl
theorem isSize : (Tryz.prog.info? 300).map (·.size) = some 1 := by kernel_rfl
theorem noIsE (v : Value) (xT : TypeId) (w : World) : (Instr.typeAssert (.iface 298 v) xT 269 true).run Tryz.prog w = .ok (.tuple #[.nilIface, .bool false]) w := run_typeAssert_lacksB Tryz.underlying269 (by kernel_rfl) (by kernel_rfl) v xT w
theorem noIsW (v : Value) (xT : TypeId) (w : World) : (Instr.typeAssert (.iface 263 v) xT 269 true).run Tryz.prog w = .ok (.tuple #[.nilIface, .bool false]) w := run_typeAssert_lacksB Tryz.underlying269 (by kernel_rfl) (by kernel_rfl) v xT w
theorem hasUnwrapW (v : Value) (xT : TypeId) (w : World) : (Instr.typeAssert (.iface 263 v) xT 272 true).run Tryz.prog w = .ok (.tuple #[.iface 263 v, .bool true]) w := run_typeAssert_hasB Tryz.underlying272 (by kernel_rfl) v xT w
set_option maxRecDepth 100000 in
theorem is_range (N : Nat) (b : Addr) (w : World) (h1 : w.cell? ⟨N, 2, none⟩ = some (.iface 298 (.pointer (some b)))) :
    Calls Tryz.prog 132 #[.iface 263 (.pointer (some ⟨N, 0, none⟩)), .iface 298 (.pointer (some b))] w fun e w' => e = .returned (.bool true) ∧ w = w' := by
  obtain ⟨i, hi, hcmp⟩ := Option.map_eq_some_iff.1 isComp
  obtain ⟨j, hj, hjs⟩ := Option.map_eq_some_iff.1 isSize
  have h8 := @run_callFunc_extern Tryz.prog 168 _ Extern.ReflectliteType.typeOf Tryz.func168 (by kernel_rfl) (by kernel_rfl) (by kernel_rfl) (by kernel_rfl)
  have h32 := cmp_run
  have tT := isTypeOf
  have nE := noIsE
  have nW := noIsW
  have uW := hasUnwrapW
  have heq := run_eql_iface_ptr_same (P := Tryz.prog) w b Tryz.underlying199 Tryz.underlying298 hi hcmp hj
  have hty := run_eql_iface_types (P := Tryz.prog) 263 298 (.pointer (some ⟨N, 0, none⟩)) (.pointer (some b)) Tryz.underlying199 (by decide) w
  go_enter Tryz.func132, Tryz.ntmps132
  go_wp2
  refine wp_loop_rounds 2 ?_
  rw [rounds_succ]
  go_wp2
  rw [rounds_succ]
  go_wp2
  go_ret
  exact ⟨rfl, rfl⟩
end Go.Proofs.YthjldedjllkeeaaGreatDoor
