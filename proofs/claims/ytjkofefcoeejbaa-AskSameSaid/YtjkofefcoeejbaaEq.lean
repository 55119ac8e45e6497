/- Structs compared, in the pure evaluator. -/
import Derived.Test.YtjkofefcoeejbaaHp
import Derived.Laws.StructEq
namespace Go.Proofs.Ytjkofefcoeejbaa
open Go
set_option linter.unusedSimpArgs false
set_option linter.unusedVariables false
section
variable {P : Program}
theorem pr_bind {α β : Type} : ∀ (s : Sem α) (f : α → Sem β), pureRun P (s >>= f) = (pureRun P s).bind fun a => pureRun P (f a)
  | .pure a, f => rfl
  | .program k, f => pr_bind (k P) f
  | .mark m k, f => pr_bind k f
  | .load .., _ => rfl
  | .store .., _ => rfl
  | .new .., _ => rfl
  | .shape .., _ => rfl
  | .freeze .., _ => rfl
  | .frozen .., _ => rfl
  | .getObj .., _ => rfl
  | .setObj .., _ => rfl
  | .choose .., _ => rfl
  | .sys .., _ => rfl
  | .halt .., _ => rfl
theorem pr_pure {α : Type} (a : α) : pureRun P (pure a : Sem α) = some a := rfl
theorem pr_program : pureRun P program = some P := rfl
theorem pr_underlying {t : TypeId} {d : TypeDesc} (h : P.underlying t = some d) : pureRun P (underlying t) = some d := by
  unfold underlying
  rw [pr_bind, pr_program]
  simp only [Option.bind_some, h]
  rfl
theorem pr_ite {α : Type} (c : Prop) [Decidable c] (a b : Sem α) : pureRun P (if c then a else b) = if c then pureRun P a else pureRun P b := by split <;> rfl
theorem pr_equalIn_struct (d : Nat) (t : TypeId) (xs ys : Array Value) (ht : P.underlying t = some (.struct (P.fieldsOf t))) (hp : P.stoodInHeld t = false) :
    pureRun P (Op.equalIn (d + 1) t (.agg xs) (.agg ys)) = pureRun P (Op.eqFields d xs ys (P.fieldsOf t).toList) := by
  simp only [Op.equalIn, pr_bind, pr_underlying ht, Option.bind_some, pr_program, hp, Bool.false_eq_true, if_false]
  rw [← Array.forIn_toList]
  generalize (P.fieldsOf t).toList = fs
  clear ht
  induction fs with
  | nil => simp [Op.eqFields, pr_pure]
  | cons f fs ih =>
    simp only [List.forIn_cons, Op.eqFields, pr_bind, pr_ite]
    split
    · cases pureRun P (part f.type xs f.offset) with
      | none => rfl
      | some a =>
        simp only [Option.bind_some]
        cases pureRun P (part f.type ys f.offset) with
        | none => rfl
        | some b =>
          simp only [Option.bind_some]
          cases pureRun P (Op.equalIn d f.type a b) with
          | none => rfl
          | some r =>
            cases r
            · simp only [Option.bind_some, Bool.not_false, if_true, pr_pure]
            · simp only [Option.bind_some, Bool.not_true, Bool.false_eq_true, if_false, pr_pure]
              simpa only [pr_bind] using ih
    · simp only [pr_pure, Option.bind_some]
      simpa only [pr_bind] using ih
theorem pr_eqFields_cons {d : Nat} {xs ys : Array Value} {f : Field} {fs : List Field} {a b : Value} {r : Bool} (hn : f.name ≠ "_") (ha : pureRun P (part f.type xs f.offset) = some a) (hb : pureRun P (part f.type ys f.offset) = some b) (h : pureRun P (Op.equalIn d f.type a b) = some r) :
    pureRun P (Op.eqFields d xs ys (f :: fs)) = if r = true then pureRun P (Op.eqFields d xs ys fs) else some false := by
  rw [Op.eqFields, if_pos hn, pr_bind, ha, Option.bind_some, pr_bind, hb, Option.bind_some, pr_bind, h, Option.bind_some]
  cases r <;> rfl
theorem pr_eqFields_nil {d : Nat} {xs ys : Array Value} : pureRun P (Op.eqFields d xs ys []) = some true := rfl
theorem pr_part_int {t : TypeId} {k : IntKind} {cs : Array Value} {off : Nat} {v : Value} (hu : P.underlying t = some (.int k)) (hv : cs[off]? = some v) : pureRun P (part t cs off) = some v := by
  simp only [part, isAgg, pr_bind, pr_underlying hu, pr_pure, Option.bind_some, Bool.false_eq_true, if_false, hv]
theorem pr_part_bool {t : TypeId} {cs : Array Value} {off : Nat} {v : Value} (hu : P.underlying t = some .bool) (hv : cs[off]? = some v) : pureRun P (part t cs off) = some v := by
  simp only [part, isAgg, pr_bind, pr_underlying hu, pr_pure, Option.bind_some, Bool.false_eq_true, if_false, hv]
theorem pr_equalIn_int (d : Nat) (t : TypeId) (k k' : IntKind) (a b : Int) (h : P.underlying t = some (.int k')) : pureRun P (Op.equalIn (d + 1) t (.int k a) (.int k b)) = some (a == b) := by
  simp only [Op.equalIn, pr_bind, pr_underlying h, Option.bind_some, if_true]
  rfl
theorem pr_equalIn_bool (d : Nat) (t : TypeId) (a b : Bool) (h : P.underlying t = some .bool) : pureRun P (Op.equalIn (d + 1) t (.bool a) (.bool b)) = some (a == b) := by
  simp only [Op.equalIn, pr_bind, pr_underlying h, Option.bind_some, if_true]
  rfl
theorem pr_guard (op : BinOp) (t : TypeId) (x y : Operand) (xs ys : Array Value) (hm : P.eqGuardType P.depth t = false) : pureRun P (eqGuard op t x y (.agg xs) (.agg ys)) = some () := by
  cases op <;> simp only [eqGuard, pr_bind, pr_program, Option.bind_some, hm, Bool.not_false, if_true, Bool.not_true, Bool.false_eq_true, if_false] <;> rfl
theorem binD_neq_agg {t : TypeId} {x y : Operand} {us ws : List DV} {va vb : List Value} {r : Bool} (ha : mapO flatV us = some va) (hb : mapO flatV ws = some vb) (hm : P.eqGuardType P.depth t = false) (h : pureRun P (Op.equalIn 10000 t (.agg va.toArray) (.agg vb.toArray)) = some r) :
    binD P .neq t x y (.agg us) (.agg ws) = some (Bo (!r)) := by
  show eqD P .neq t x y (.agg us) (.agg ws) = _
  unfold eqD
  have e1 : toVal (.agg us) = some (.agg va.toArray) := by simp only [toVal, ha, Option.map_some]
  have e2 : toVal (.agg ws) = some (.agg vb.toArray) := by simp only [toVal, hb, Option.map_some]
  rw [e1, e2]
  simp only [pureV, pr_bind, pr_guard .neq t x y _ _ hm, Option.bind_some]
  have : pureRun P (binOp .neq t (.agg va.toArray) (.agg vb.toArray)) = some (.bool (!r)) := by
    show pureRun P (Op.equal t _ _ >>= fun b => pure (Value.bool !b)) = _
    rw [pr_bind]
    have h' : pureRun P (Op.equal t (.agg va.toArray) (.agg vb.toArray)) = some r := h
    rw [h']
    rfl
  rw [this]
  rfl
theorem binD_eql_agg {t : TypeId} {x y : Operand} {us ws : List DV} {va vb : List Value} {r : Bool} (ha : mapO flatV us = some va) (hb : mapO flatV ws = some vb) (hm : P.eqGuardType P.depth t = false) (h : pureRun P (Op.equalIn 10000 t (.agg va.toArray) (.agg vb.toArray)) = some r) :
    binD P .eql t x y (.agg us) (.agg ws) = some (Bo r) := by
  show eqD P .eql t x y (.agg us) (.agg ws) = _
  unfold eqD
  have e1 : toVal (.agg us) = some (.agg va.toArray) := by simp only [toVal, ha, Option.map_some]
  have e2 : toVal (.agg ws) = some (.agg vb.toArray) := by simp only [toVal, hb, Option.map_some]
  rw [e1, e2]
  simp only [pureV, pr_bind, pr_guard .eql t x y _ _ hm, Option.bind_some]
  have : pureRun P (binOp .eql t (.agg va.toArray) (.agg vb.toArray)) = some (.bool r) := by
    show pureRun P (Op.equal t _ _ >>= fun b => pure (Value.bool b)) = _
    rw [pr_bind]
    have h' : pureRun P (Op.equal t (.agg va.toArray) (.agg vb.toArray)) = some r := h
    rw [h']
    rfl
  rw [this]
  rfl
end
end Go.Proofs.Ytjkofefcoeejbaa
