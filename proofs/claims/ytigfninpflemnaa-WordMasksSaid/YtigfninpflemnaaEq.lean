/- Two arrays of scalars held against each other. -/
import Derived.Test.YtigfninpflemnaaBase
import Derived.ChangeKeysEq
namespace Go.Proofs.Ytigfninpflemnaa
open Go.RowKit

section
variable {P : Program}
def eqElems (d : Nat) (e : TypeId) (n : Nat) (xs ys : Array Value) : List Nat → Sem Bool
  | [] => pure true
  | i :: is => do
    let a ← part e xs (i * n)
    let b ← part e ys (i * n)
    let r ← Op.equalIn d e a b
    if (!r) = true then pure false else eqElems d e n xs ys is
theorem run_equalIn_array (d : Nat) (t e : TypeId) (len : Nat) (xs ys : Array Value) (w : World) (ht : P.underlying t = some (.array len e)) (i : TypeInfo) (hi : P.info? e = some i) :
    (Op.equalIn (d + 1) t (.agg xs) (.agg ys)).run P w = (eqElems d e i.size xs ys (List.range' 0 len)).run P w := by
  simp only [Op.equalIn, Sem.run_bind, run_underlying ht, Result.andThen_ok, sizeOf, typeInfo, run_program, hi, Sem.run_pure]
  rw [Std.Legacy.Range.forIn_eq_forIn_range']
  have e1 : ([0:len] : Std.Legacy.Range).size = len := by simp [Std.Legacy.Range.size]
  rw [e1]
  show _ = (eqElems d e i.size xs ys (List.range' 0 len)).run P w
  generalize List.range' 0 len = l
  clear ht
  induction l generalizing w with
  | nil => simp [eqElems]
  | cons j l ih =>
    simp only [List.forIn_cons, eqElems, Sem.run_bind]
    generalize (part e xs (j * i.size)).run P w = r1
    cases r1 with
    | halt x w1 => simp [Result.andThen]
    | ok a w1 =>
      simp only [Result.andThen_ok]
      generalize (part e ys (j * i.size)).run P w1 = r2
      cases r2 with
      | halt x w2 => simp [Result.andThen]
      | ok b w2 =>
        simp only [Result.andThen_ok]
        generalize (Op.equalIn d e a b).run P w2 = r3
        cases r3 with
        | halt x w3 => simp [Result.andThen]
        | ok r w3 =>
          cases r
          · simp
          · simp only [Result.andThen_ok, Bool.not_true, Bool.false_eq_true, if_false, Sem.run_pure]
            exact ih w3
theorem run_part_scal {e : TypeId} (he : P.plainKey e = true) {xs : Array Value} {off : Nat} {v : Value} (hx : xs[off]? = some v) (w : World) : (part e xs off).run P w = .ok v w := run_part_plain w he hx
/-- two arrays of whole numbers -/
theorem run_eqElems_ints {e : TypeId} {k : IntKind} (he : P.underlying e = some (.int k)) (hp : P.plainKey e = true) (d : Nat) (la lb : List Int) (hl : la.length = lb.length) (w : World) :
    ∀ m i, i + m = la.length → (eqElems (d + 1) e 1 (la.map (Value.int k)).toArray (lb.map (Value.int k)).toArray (List.range' i m)).run P w = .ok (decide (la.drop i = lb.drop i)) w := by
  intro m
  induction m with
  | zero =>
    intro i hi
    rw [List.drop_eq_nil_of_le (by omega), List.drop_eq_nil_of_le (by omega)]
    simp [eqElems]
  | succ m ih =>
    intro i hi
    have h1 : i < la.length := by omega
    have h2 : i < lb.length := by omega
    rw [List.range'_succ]
    simp only [eqElems, Sem.run_bind, Nat.mul_one]
    rw [run_part_scal hp (v := .int k la[i]) (by simp [h1])]
    simp only [Result.andThen_ok]
    rw [run_part_scal hp (v := .int k lb[i]) (by simp [h2])]
    simp only [Result.andThen_ok]
    rw [run_equalIn_int w d e k k la[i] lb[i] he]
    simp only [Result.andThen_ok]
    have hc : (la.drop i = lb.drop i) ↔ (la[i] = lb[i] ∧ la.drop (i + 1) = lb.drop (i + 1)) := by
      rw [List.drop_eq_getElem_cons h1, List.drop_eq_getElem_cons h2, List.cons.injEq]
    have hc' : decide (la.drop i = lb.drop i) = ((la[i] == lb[i]) && decide (la.drop (i + 1) = lb.drop (i + 1))) := by
      rw [Bool.eq_iff_iff]
      simp only [decide_eq_true_eq, Bool.and_eq_true, beq_iff_eq]
      exact hc
    rw [hc']
    clear hc hc'
    by_cases he : la[i] = lb[i]
    · have : (la[i] == lb[i]) = true := by simpa using he
      simp only [this, Bool.not_true, Bool.false_eq_true, if_false]
      rw [ih (i + 1) (by omega)]
      simp
    · have : (la[i] == lb[i]) = false := by simpa using he
      simp only [this, Bool.not_false, if_true, Sem.run_pure]
      simp
theorem run_eq_ints {t e : TypeId} {k : IntKind} {n : Nat} (ht : P.underlying t = some (.array n e)) (hinfo : (P.info? e).map (·.size) = some 1) (he : P.underlying e = some (.int k)) (hp : P.plainKey e = true)
    (la lb : List Int) (ha : la.length = n) (hb : lb.length = n) (w : World) :
    (Op.equalIn 10000 t (.agg (la.map (Value.int k)).toArray) (.agg (lb.map (Value.int k)).toArray)).run P w = .ok (decide (la = lb)) w := by
  obtain ⟨i, hi, hs⟩ := Option.map_eq_some_iff.1 hinfo
  rw [show (10000 : Nat) = 9999 + 1 from rfl, run_equalIn_array 9999 t e n _ _ w ht i hi, hs, show (9999 : Nat) = 9998 + 1 from rfl, run_eqElems_ints he hp 9998 la lb (by omega) w n 0 (by omega)]
  simp
end
end Go.Proofs.Ytigfninpflemnaa
