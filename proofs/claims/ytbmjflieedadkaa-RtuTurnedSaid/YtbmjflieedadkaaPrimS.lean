/- Functions that are known by a contract of their own: that they answer so. -/
import Derived.Test.YtbmjflieedadkaaPrimB
import Derived.WalkKit
import Derived.Below
import Derived.LaidEql
import Derived.RowKitTokens
import Derived.Stop.Asserts
import Derived.Lib.IfaceEq
namespace Go.Proofs.Ytbmjflieedadkaa
open Go Go.RowKit
set_option linter.unusedSimpArgs false
set_option linter.unusedVariables false
theorem isTypeOf (v : Value) (w : World) : (Extern.ReflectliteType.typeOf #[.iface 26 v]).run Try.prog w = .ok (.iface 138 (.agg #[typeHandle Try.prog 26])) w := by kernel_rfl
theorem isComparable (w : World) : ((Extern.ReflectliteType.method fun t => do Extern.Rtype.noPackHeld "Comparable" t; (fun a => Value.bool a.comparable) <$> typeInfo t) #[.agg #[typeHandle Try.prog 26]]).run Try.prog w = .ok (.bool true) w := by kernel_rfl
theorem isMethodComparable (v : Value) (w : World) : (Go.method 295 138 v "Comparable").run Try.prog w = .ok (107, v) w := by kernel_rfl
theorem isMethodUnwrap (v : Value) (w : World) : (Go.method 295 100 v "Unwrap").run Try.prog w = .ok (103, v) w := by kernel_rfl
theorem isCompE : (Try.prog.info? 26).map (·.comparable) = some true := by kernel_rfl
theorem noIsE (v : Value) (xT : TypeId) (w : World) : (Instr.typeAssert (.iface 26 v) xT 140 true).run Try.prog w = .ok (.tuple #[.nilIface, .bool false]) w := run_typeAssert_lacksB Try.underlying140 (by kernel_rfl) (by kernel_rfl) v xT w
theorem noIsT (v : Value) (xT : TypeId) (w : World) : (Instr.typeAssert (.iface 100 v) xT 140 true).run Try.prog w = .ok (.tuple #[.nilIface, .bool false]) w := run_typeAssert_lacksB Try.underlying140 (by kernel_rfl) (by kernel_rfl) v xT w
theorem noUnwrapE (v : Value) (xT : TypeId) (w : World) : (Instr.typeAssert (.iface 26 v) xT 143 true).run Try.prog w = .ok (.tuple #[.nilIface, .bool false]) w := run_typeAssert_lacksB Try.underlying143 (by kernel_rfl) (by kernel_rfl) v xT w
theorem noUnwrapsE (v : Value) (xT : TypeId) (w : World) : (Instr.typeAssert (.iface 26 v) xT 145 true).run Try.prog w = .ok (.tuple #[.nilIface, .bool false]) w := run_typeAssert_lacksB Try.underlying145 (by kernel_rfl) (by kernel_rfl) v xT w
theorem hasUnwrapT (v : Value) (xT : TypeId) (w : World) : (Instr.typeAssert (.iface 100 v) xT 143 true).run Try.prog w = .ok (.tuple #[.iface 100 v, .bool true]) w := run_typeAssert_hasB Try.underlying143 (by kernel_rfl) v xT w
/-- errors.Is(a trouble of an error's number, an error's number) -/
theorem is_trouble (n e x : Int) (w : World) :
    Calls Try.prog 49 #[.iface 100 (.agg #[.int .i64 n, .iface 26 (.int .i64 e)]), .iface 26 (.int .i64 x)] w fun r w' => r = .returned (.bool (e == x)) ∧ Below w.heap.size w w' := by
  have h8 := @run_callFunc_extern Try.prog 57 _ Extern.ReflectliteType.typeOf Try.func57 (by kernel_rfl) (by kernel_rfl) (by kernel_rfl) (by kernel_rfl)
  have h32 := @run_callFunc_extern Try.prog 107 _ (Extern.ReflectliteType.method fun t => do Extern.Rtype.noPackHeld "Comparable" t; pure (.bool (← typeInfo t).comparable)) Try.func107 (by kernel_rfl) (by kernel_rfl) (by kernel_rfl) (by kernel_rfl)
  have tT := isTypeOf
  have cT := isComparable
  generalize typeHandle Try.prog 26 = hdl at tT cT
  have mR := isMethodComparable
  have nE := noIsE
  have nT := noIsT
  have uE := noUnwrapE
  have vE := noUnwrapsE
  have uT := hasUnwrapT
  have mU := isMethodUnwrap
  have heq := fun w => Lib.run_eql_iface_int (P := Try.prog) (k := .i64) w e x Try.underlying70 isCompE Try.underlying26
  have hty := run_eql_iface_types (P := Try.prog) 100 26 (.agg #[.int .i64 n, .iface 26 (.int .i64 e)]) (.int .i64 x) Try.underlying70 (by decide)
  obtain ⟨r, hr⟩ : ∃ r : Bool, (e == x) = r := ⟨_, rfl⟩
  simp only [hr] at heq ⊢
  cases r with
  | true =>
    go_enter Try.func49, Try.ntmps49
    go_wp2
    refine wp_loop_rounds 2 ?_
    rw [rounds_succ]
    go_wp2
    rw [rounds_succ]
    go_wp2
    go_ret
    exact ⟨rfl, (Below.refl _ w).alloc (Nat.le_refl _) _⟩
  | false =>
    go_enter Try.func49, Try.ntmps49
    go_wp2
    refine wp_loop_rounds 2 ?_
    rw [rounds_succ]
    go_wp2
    rw [rounds_succ]
    go_wp2
    go_ret
    exact ⟨rfl, (Below.refl _ w).alloc (Nat.le_refl _) _⟩
theorem primIs_ok {args : List DV} {d : DV} {H H' : Heap} (h : primIs args H = some (d, H')) : H' = H ∧ ∀ fl, CallOk Try.prog 49 args H fl d H := by
  unfold primIs at h
  split at h
  · rename_i t n t2 e t3 x
    split at h
    · rename_i hc
      obtain ⟨rfl, rfl, rfl⟩ := hc
      simp only [Option.some.injEq, Prod.mk.injEq] at h
      obtain ⟨rfl, rfl⟩ := h
      refine ⟨rfl, fun fl => callOk_below (fun I G w vs hr => ?_) _ fl⟩
      simp only [RepL, Rep] at hr
      obtain ⟨_, _, e1, ⟨_, rfl, vs1, rfl, e2⟩, _, _, rfl, ⟨_, rfl, rfl⟩, rfl⟩ := hr
      obtain ⟨_, _, e3, rfl, _, _, rfl, ⟨_, rfl, rfl⟩, rfl⟩ := e2
      have hv1 : vs1 = #[.int .i64 n, .iface 26 (.int .i64 e)] := by
        apply Array.ext'
        simpa using e3
      have hv : vs = #[.iface 100 (.agg vs1), .iface 26 (.int .i64 x)] := by
        apply Array.ext'
        simpa using e1
      subst hv1
      subst hv
      exact (is_trouble n e x w).mono fun r w' ⟨h1, h2⟩ => ⟨_, h1, h2, fun I G => by simp only [Rep]⟩
    · cases h
  · cases h
theorem primOk (f : FuncId) (g : Prim) (args : List DV) (H : Heap) (d : DV) (H' : Heap) (hf : PRIM f = some g) (h : g args H = some (d, H')) : (∃ fn, Try.prog.funcs[f]? = some fn ∧ fn.body.isSome = true) ∧ (∀ fl, CallOk Try.prog f args H fl d H') ∧ ∀ k : Nat, H[k]? = some .hole → H'[k]? = some .hole := by
  unfold PRIM at hf
  by_cases c1 : f = 49
  · subst c1
    simp only [BEq.rfl, cond_true, Option.some.injEq] at hf
    subst hf
    obtain ⟨rfl, h⟩ := primIs_ok h
    exact ⟨⟨_, Try.func49, rfl⟩, h, fun _ h => h⟩
  have c2 : (f == 49) = false := by simpa using c1
  simp only [c2, cond_false] at hf
  cases hf
end Go.Proofs.Ytbmjflieedadkaa
