/- Arrays compared, in the pure evaluator; states of modes. -/
import Derived.Test.YtjkofefcoeejbaaEq
namespace Go.Proofs.Ytjkofefcoeejbaa
open Go
set_option linter.unusedSimpArgs false
set_option linter.unusedVariables false
section
variable {P : Program}
theorem pr_sizeOf {t : TypeId} {i : TypeInfo} (h : P.info? t = some i) : pureRun P (sizeOf t) = some i.size := by
  unfold sizeOf typeInfo
  simp only [pr_bind, pr_program, Option.bind_some, h]
  rfl
/-- an array's elements compared, one by one -/
def eqElems (d : Nat) (e : TypeId) (n : Nat) (xs ys : Array Value) : List Nat → Sem Bool
  | [] => pure true
  | i :: l => do
    let a ← part e xs (i * n)
    let b ← part e ys (i * n)
    let r ← Op.equalIn d e a b
    if (!r) = true then pure false else eqElems d e n xs ys l
theorem pr_equalIn_array (d len : Nat) (t e : TypeId) (i : TypeInfo) (xs ys : Array Value) (ht : P.underlying t = some (.array len e)) (hi : P.info? e = some i) :
    pureRun P (Op.equalIn (d + 1) t (.agg xs) (.agg ys)) = pureRun P (eqElems d e i.size xs ys (List.range' 0 len)) := by
  simp only [Op.equalIn, pr_bind, pr_underlying ht, pr_sizeOf hi, Option.bind_some]
  rw [Std.Legacy.Range.forIn_eq_forIn_range']
  have hl : Std.Legacy.Range.size [0:len] = len := by simp [Std.Legacy.Range.size]
  simp only [hl]
  generalize List.range' 0 len = fs
  induction fs with
  | nil => simp [eqElems, pr_pure]
  | cons f fs ih =>
    simp only [List.forIn_cons, eqElems, pr_bind, pr_ite]
    cases pureRun P (part e xs (f * i.size)) with
    | none => rfl
    | some a =>
      simp only [Option.bind_some]
      cases pureRun P (part e ys (f * i.size)) with
      | none => rfl
      | some b =>
        simp only [Option.bind_some]
        cases pureRun P (Op.equalIn d e a b) with
        | none => rfl
        | some r =>
          cases r
          · simp only [Option.bind_some, Bool.not_false, if_true, pr_pure]
          · simp only [Option.bind_some, Bool.not_true, Bool.false_eq_true, if_false, pr_pure]
            simpa only [pr_bind] using ih
theorem pr_eqElems_cons {d : Nat} {e : TypeId} {n : Nat} {xs ys : Array Value} {i : Nat} {l : List Nat} {a b : Value} {r : Bool} (ha : pureRun P (part e xs (i * n)) = some a) (hb : pureRun P (part e ys (i * n)) = some b) (h : pureRun P (Op.equalIn d e a b) = some r) :
    pureRun P (eqElems d e n xs ys (i :: l)) = if r = true then pureRun P (eqElems d e n xs ys l) else some false := by
  rw [eqElems, pr_bind, ha, Option.bind_some, pr_bind, hb, Option.bind_some, pr_bind, h, Option.bind_some]
  cases r <;> rfl
theorem info_of {t : TypeId} {n : Nat} (h : ((P.info? t).map (·.size)) = some n) : ∃ i, P.info? t = some i ∧ i.size = n := by
  cases hi : P.info? t with
  | none => rw [hi] at h; cases h
  | some i => rw [hi] at h; exact ⟨i, rfl, by simpa using h⟩
theorem pr_eq3_bool {d : Nat} {t e : TypeId} (ht : P.underlying t = some (.array 3 e)) (he : P.underlying e = some .bool) (hs : ((P.info? e).map (·.size)) = some 1) (a b c a' b' c' : Bool) :
    pureRun P (Op.equalIn (d + 2) t (.agg #[.bool a, .bool b, .bool c]) (.agg #[.bool a', .bool b', .bool c'])) = some (a == a' && b == b' && c == c') := by
  obtain ⟨i, hi, h1⟩ := info_of hs
  rw [pr_equalIn_array (d + 1) 3 t e i _ _ ht hi, h1]
  show pureRun P (eqElems (d + 1) e 1 _ _ [0, 1, 2]) = _
  rw [pr_eqElems_cons (a := .bool a) (b := .bool a') (r := a == a') (pr_part_bool he rfl) (pr_part_bool he rfl) (pr_equalIn_bool d e a a' he)]
  rw [pr_eqElems_cons (a := .bool b) (b := .bool b') (r := b == b') (pr_part_bool he rfl) (pr_part_bool he rfl) (pr_equalIn_bool d e b b' he)]
  rw [pr_eqElems_cons (a := .bool c) (b := .bool c') (r := c == c') (pr_part_bool he rfl) (pr_part_bool he rfl) (pr_equalIn_bool d e c c' he)]
  show (if (a == a') = true then (if (b == b') = true then (if (c == c') = true then some true else some false) else some false) else some false) = _
  cases (a == a') <;> cases (b == b') <;> cases (c == c') <;> rfl
theorem pr_eq3_int {d : Nat} {t e : TypeId} {k : IntKind} (ht : P.underlying t = some (.array 3 e)) (he : P.underlying e = some (.int k)) (hs : ((P.info? e).map (·.size)) = some 1) (a b c a' b' c' : Int) :
    pureRun P (Op.equalIn (d + 2) t (.agg #[.int k a, .int k b, .int k c]) (.agg #[.int k a', .int k b', .int k c'])) = some (a == a' && b == b' && c == c') := by
  obtain ⟨i, hi, h1⟩ := info_of hs
  rw [pr_equalIn_array (d + 1) 3 t e i _ _ ht hi, h1]
  show pureRun P (eqElems (d + 1) e 1 _ _ [0, 1, 2]) = _
  rw [pr_eqElems_cons (a := .int k a) (b := .int k a') (r := a == a') (pr_part_int he rfl) (pr_part_int he rfl) (pr_equalIn_int d e k k a a' he)]
  rw [pr_eqElems_cons (a := .int k b) (b := .int k b') (r := b == b') (pr_part_int he rfl) (pr_part_int he rfl) (pr_equalIn_int d e k k b b' he)]
  rw [pr_eqElems_cons (a := .int k c) (b := .int k c') (r := c == c') (pr_part_int he rfl) (pr_part_int he rfl) (pr_equalIn_int d e k k c c' he)]
  show (if (a == a') = true then (if (b == b') = true then (if (c == c') = true then some true else some false) else some false) else some false) = _
  cases (a == a') <;> cases (b == b') <;> cases (c == c') <;> rfl
end
end Go.Proofs.Ytjkofefcoeejbaa
