/- errors.Is at an error number, by its contracts: the number itself; nil. -/
import Derived.Test.YtfanhbemmjcomaaStLives
import Derived.LaidEql
namespace Go.Proofs.Ytfanhbemmjcomaa
open Go.RowKit
set_option linter.unusedVariables false

theorem isTypeOf (v : Value) (w : World) : (Extern.ReflectliteType.typeOf #[.iface 27 v]).run Try.prog w = .ok (.iface 117 (.agg #[.pointer (some ⟨0, 27, none⟩)])) w := by kernel_rfl
theorem isComparable (w : World) : ((Extern.ReflectliteType.method fun t => do Extern.Rtype.noPackHeld "Comparable" t; (fun a => Value.bool a.comparable) <$> typeInfo t) #[.agg #[.pointer (some ⟨0, 27, none⟩)]]).run Try.prog w = .ok (.bool true) w := by kernel_rfl
theorem isMethod (v : Value) (w : World) : (Go.method 262 117 v "Comparable").run Try.prog w = .ok (95, v) w := by kernel_rfl
/-- Two errors of one number type are equal as the numbers are. -/
theorem err_eql (w : World) (a b : Int) : (binOp .eql 89 (.iface 27 (.int .i64 a)) (.iface 27 (.int .i64 b))).run Try.prog w = .ok (.bool (a == b)) w := by
  obtain ⟨i, hi, hc⟩ := Option.map_eq_some_iff.1 (show (Try.prog.info? 27).map (·.comparable) = some true by kernel_rfl)
  have h : ∀ d : Nat, (Op.equalIn (d + 2) 89 (.iface 27 (.int .i64 a)) (.iface 27 (.int .i64 b))).run Try.prog w = .ok (a == b) w := fun d => by
    simp [Op.equalIn, run_underlying Try.underlying89, run_underlying Try.underlying27, typeInfo, hi, hc]
  simp only [binOp]
  simp [Op.equal, Op.maxDepth, h 9998]
set_option maxRecDepth 10000 in
set_option maxHeartbeats 1000000 in
/-- errors.Is of a number and the same number. -/
theorem is_same (a : Int) (w : World) :
    Calls Try.prog 47 #[.iface 27 (.int .i64 a), .iface 27 (.int .i64 a)] w fun e w' => e = .returned (.bool true) ∧ w' = w := by
  have hT := @run_callFunc_extern Try.prog 60 _ Extern.ReflectliteType.typeOf Try.func60 (by kernel_rfl) (by kernel_rfl) (by kernel_rfl) (by kernel_rfl)
  have hC := @run_callFunc_extern Try.prog 95 _ (Extern.ReflectliteType.method fun t => do Extern.Rtype.noPackHeld "Comparable" t; pure (.bool (← typeInfo t).comparable)) Try.func95 (by kernel_rfl) (by kernel_rfl) (by kernel_rfl) (by kernel_rfl)
  have tT := isTypeOf
  have cT := isComparable
  have mR := isMethod
  have heq := err_eql w a a
  rw [beq_self_eq_true] at heq
  go_enter Try.func47, Try.ntmps47
  go_wp2
  refine wp_loop_rounds 1 ?_
  rw [rounds_succ]
  go_wp2
  go_ret
  exact ⟨rfl, rfl⟩
/-- errors.Is of nil. -/
theorem is_nil (b : Int) (w : World) :
    Calls Try.prog 47 #[.nilIface, .iface 27 (.int .i64 b)] w fun e w' => e = .returned (.bool false) ∧ w' = w := by
  have hn := run_eql_iface_nil_left (P := Try.prog) w 27 (.int .i64 b) Try.underlying89
  go_enter Try.func47, Try.ntmps47
  go_wp2
  go_ret
  exact ⟨rfl, rfl⟩
end Go.Proofs.Ytfanhbemmjcomaa
