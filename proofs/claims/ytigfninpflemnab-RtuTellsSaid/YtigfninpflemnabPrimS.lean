/- Functions that are known by a contract of their own: that they answer so. -/
import Derived.Test.YtigfninpflemnabPrimD
import Derived.Test.YtigfninpflemnabPg
import Derived.WalkKit
import Derived.Below
import Derived.LaidEql
import Derived.RowKitTokens
import Derived.Stop.Asserts
import Derived.Lib.IfaceEq
namespace Go.Proofs.Ytigfninpflemnab
open Go Go.RowKit
set_option linter.unusedSimpArgs false
set_option linter.unusedVariables false
theorem Keep.below (G : Gh) {w w' : World} (h : Below w.heap.size w w') : Keep G w G w' :=
  ⟨h.os, h.tape, h.output, h.size, fun b hb _ => h.block b hb, fun k b sz cap hw hg hb j hj => cell_of_blk (h.block b hb) j, Evol.refl G, fun k b hb h => h, fun k b sz cap' hw' hb h => ⟨cap', hw', h, Nat.le_refl _⟩⟩
theorem HR.below {B : Nat → Nat → Prop} {G : Gh} {w w' : World} {H : Heap} (h : HR B G w H) (hb : Below w.heap.size w w') : HR B G w' H := by
  refine ⟨h.len, h.dist, fun k b g hB hg => ?_, h.bb⟩
  have := h.blk k b g hB hg
  cases b <;> cases g <;> simp only [BlkRep] at this ⊢
  · obtain ⟨C, h1, h2, h3⟩ := this
    exact ⟨C, by rw [hb.block _ (h.lt (.inl hg))]; exact h1, RepL.keep (Keep.below G hb) h2, h3⟩
  · obtain ⟨h1, h2, h3, h4, h5, C, h6, h7⟩ := this
    exact ⟨h1, h2, h3, h4, h5, C, by rw [hb.block _ (h.lt (.inr ⟨_, _, _, hg⟩))]; exact h6, h7⟩
/-- a call that leaves all that was, and answers what holds no address -/
theorem callOk_below {P : Program} {f : FuncId} {args : List DV} {r : DV} (h : ∀ (I : Nat → Nat → Prop) (G : Gh) (w : World) (vs : Array Value), RepL I w G args vs.toList → Calls P f vs w fun e w' => ∃ V, e = .returned V ∧ Below w.heap.size w w' ∧ ∀ (I : Nat → Nat → Prop) (G : Gh), Rep I w' G r V) (H : Heap) (fl : Nat) : CallOk P f args H fl r H := by
  intro B G w vs hB hH hr hfl
  refine ⟨(h _ G w vs hr).mono fun e w' ⟨V, he, hb, hV⟩ => ⟨V, G, he, Keep.below G hb, hH.below hb, hV _ _⟩, fun _ _ => rfl, Nat.le_refl _⟩
theorem isTypeOf (v : Value) (w : World) : (Extern.ReflectliteType.typeOf #[.iface 54 v]).run Try.prog w = .ok (.iface 166 (.agg #[typeHandle Try.prog 54])) w := by kernel_rfl
theorem isComparable (w : World) : ((Extern.ReflectliteType.method fun t => do Extern.Rtype.noPackHeld "Comparable" t; (fun a => Value.bool a.comparable) <$> typeInfo t) #[.agg #[typeHandle Try.prog 54]]).run Try.prog w = .ok (.bool true) w := by kernel_rfl
theorem isMethodComparable (v : Value) (w : World) : (Go.method 309 166 v "Comparable").run Try.prog w = .ok (116, v) w := by kernel_rfl
theorem isMethodUnwrap (v : Value) (w : World) : (Go.method 309 153 v "Unwrap").run Try.prog w = .ok (112, v) w := by kernel_rfl
theorem isCompE : (Try.prog.info? 54).map (·.comparable) = some true := by kernel_rfl
theorem noIsE (v : Value) (xT : TypeId) (w : World) : (Instr.typeAssert (.iface 54 v) xT 168 true).run Try.prog w = .ok (.tuple #[.nilIface, .bool false]) w := run_typeAssert_lacksB Try.underlying168 (by kernel_rfl) (by kernel_rfl) v xT w
theorem noIsT (v : Value) (xT : TypeId) (w : World) : (Instr.typeAssert (.iface 153 v) xT 168 true).run Try.prog w = .ok (.tuple #[.nilIface, .bool false]) w := run_typeAssert_lacksB Try.underlying168 (by kernel_rfl) (by kernel_rfl) v xT w
theorem noUnwrapE (v : Value) (xT : TypeId) (w : World) : (Instr.typeAssert (.iface 54 v) xT 171 true).run Try.prog w = .ok (.tuple #[.nilIface, .bool false]) w := run_typeAssert_lacksB Try.underlying171 (by kernel_rfl) (by kernel_rfl) v xT w
theorem noUnwrapsE (v : Value) (xT : TypeId) (w : World) : (Instr.typeAssert (.iface 54 v) xT 173 true).run Try.prog w = .ok (.tuple #[.nilIface, .bool false]) w := run_typeAssert_lacksB Try.underlying173 (by kernel_rfl) (by kernel_rfl) v xT w
theorem hasUnwrapT (v : Value) (xT : TypeId) (w : World) : (Instr.typeAssert (.iface 153 v) xT 171 true).run Try.prog w = .ok (.tuple #[.iface 153 v, .bool true]) w := run_typeAssert_hasB Try.underlying171 (by kernel_rfl) v xT w
/-- errors.Is(a trouble of an error's number, an error's number) -/
theorem is_trouble (n e x : Int) (w : World) :
    Calls Try.prog 82 #[.iface 153 (.agg #[.int .i64 n, .iface 54 (.int .i64 e)]), .iface 54 (.int .i64 x)] w fun r w' => r = .returned (.bool (e == x)) ∧ Below w.heap.size w w' := by
  have h8 := @run_callFunc_extern Try.prog 89 _ Extern.ReflectliteType.typeOf Try.func89 (by kernel_rfl) (by kernel_rfl) (by kernel_rfl) (by kernel_rfl)
  have h32 := @run_callFunc_extern Try.prog 116 _ (Extern.ReflectliteType.method fun t => do Extern.Rtype.noPackHeld "Comparable" t; pure (.bool (← typeInfo t).comparable)) Try.func116 (by kernel_rfl) (by kernel_rfl) (by kernel_rfl) (by kernel_rfl)
  have tT := isTypeOf
  have cT := isComparable
  generalize typeHandle Try.prog 54 = hdl at tT cT
  have mR := isMethodComparable
  have nE := noIsE
  have nT := noIsT
  have uE := noUnwrapE
  have vE := noUnwrapsE
  have uT := hasUnwrapT
  have mU := isMethodUnwrap
  have heq := fun w => Lib.run_eql_iface_int (P := Try.prog) (k := .i64) w e x Try.underlying134 isCompE Try.underlying54
  have hty := run_eql_iface_types (P := Try.prog) 153 54 (.agg #[.int .i64 n, .iface 54 (.int .i64 e)]) (.int .i64 x) Try.underlying134 (by decide)
  obtain ⟨r, hr⟩ : ∃ r : Bool, (e == x) = r := ⟨_, rfl⟩
  simp only [hr] at heq ⊢
  cases r with
  | true =>
    go_enter Try.func82, Try.ntmps82
    go_wp2
    refine wp_loop_rounds 2 ?_
    rw [rounds_succ]
    go_wp2
    rw [rounds_succ]
    go_wp2
    go_ret
    exact ⟨rfl, (Below.refl _ w).alloc (Nat.le_refl _) _⟩
  | false =>
    go_enter Try.func82, Try.ntmps82
    go_wp2
    refine wp_loop_rounds 2 ?_
    rw [rounds_succ]
    go_wp2
    rw [rounds_succ]
    go_wp2
    go_ret
    exact ⟨rfl, (Below.refl _ w).alloc (Nat.le_refl _) _⟩
theorem primIs_ok {args : List DV} {d : DV} (h : primIs args = some d) (H : Heap) (fl : Nat) : CallOk Try.prog 82 args H fl d H := by
  unfold primIs at h
  split at h
  · rename_i t n t2 e t3 x
    split at h
    · rename_i hc
      obtain ⟨rfl, rfl, rfl⟩ := hc
      simp only [Option.some.injEq] at h
      subst h
      refine callOk_below (fun I G w vs hr => ?_) H fl
      simp only [RepL, Rep] at hr
      obtain ⟨_, _, e1, ⟨_, rfl, vs1, rfl, e2⟩, _, _, rfl, ⟨_, rfl, rfl⟩, rfl⟩ := hr
      obtain ⟨_, _, e3, rfl, _, _, rfl, ⟨_, rfl, rfl⟩, rfl⟩ := e2
      have hv1 : vs1 = #[.int .i64 n, .iface 54 (.int .i64 e)] := by
        apply Array.ext'
        simpa using e3
      have hv : vs = #[.iface 153 (.agg vs1), .iface 54 (.int .i64 x)] := by
        apply Array.ext'
        simpa using e1
      subst hv1
      subst hv
      exact (is_trouble n e x w).mono fun r w' ⟨h1, h2⟩ => ⟨_, h1, h2, fun I G => by simp only [Rep]⟩
    · cases h
  · cases h
theorem primOk (f : FuncId) (g : List DV → Option DV) (args : List DV) (d : DV) (hf : PRIM f = some g) (h : g args = some d) : (∃ fn, Try.prog.funcs[f]? = some fn ∧ fn.body.isSome = true) ∧ ∀ H fl, CallOk Try.prog f args H fl d H := by
  unfold PRIM at hf
  by_cases c1 : f = 82
  · subst c1
    simp only [BEq.rfl, cond_true, Option.some.injEq] at hf
    subst hf
    exact ⟨⟨_, Try.func82, rfl⟩, primIs_ok h⟩
  · have c2 : (f == 82) = false := by simpa using c1
    simp only [c2, cond_false] at hf
    cases hf
end Go.Proofs.Ytigfninpflemnab
