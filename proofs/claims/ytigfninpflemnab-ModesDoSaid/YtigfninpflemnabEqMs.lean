/- Two states of modes compared. -/
import Derived.Test.YtigfninpflemnabGModesF
namespace Go.Proofs.Ytigfninpflemnab
open Go
set_option linter.unusedSimpArgs false
set_option linter.unusedVariables false
theorem pr_part_agg {P : Program} {t : TypeId} {cs ds : Array Value} {off n : Nat} {i : TypeInfo} (hu : pureRun P (isAgg t) = some true) (hi : P.info? t = some i) (hn : i.size = n) (hd : cs.extract off (off + n) = ds) : pureRun P (part t cs off) = some (.agg ds) := by
  unfold part
  rw [pr_bind, hu]
  simp only [Option.bind_some, if_true, pr_bind, pr_sizeOf hi, hn, hd]
  rfl
theorem pr_eqF {P : Program} {d : Nat} {xs ys : Array Value} {f : Field} {fs : List Field} {a b : Value} {r s : Bool} (hn : f.name ≠ "_") (ha : pureRun P (part f.type xs f.offset) = some a) (hb : pureRun P (part f.type ys f.offset) = some b) (h : pureRun P (Op.equalIn d f.type a b) = some r) (hs : pureRun P (Op.eqFields d xs ys fs) = some s) :
    pureRun P (Op.eqFields d xs ys (f :: fs)) = some (r && s) := by
  rw [pr_eqFields_cons hn ha hb h, hs]
  cases r <;> rfl
def Ms.V (m : Ms) : List Value := [.bool m.a.is, .bool m.b.is, .bool m.c.is, .int .i64 m.a.cnt, .int .i64 m.b.cnt, .int .i64 m.c.cnt, .int .i64 m.a.lat, .int .i64 m.b.lat, .int .i64 m.c.lat, .int .i64 m.sp, .int .i64 m.te, .bool m.safe]
def msEq (m g : Ms) : Bool := (m.a.is == g.a.is && m.b.is == g.b.is && m.c.is == g.c.is) && ((m.a.cnt == g.a.cnt && m.b.cnt == g.b.cnt && m.c.cnt == g.c.cnt) && ((m.a.lat == g.a.lat && m.b.lat == g.b.lat && m.c.lat == g.c.lat) && (m.sp == g.sp && (m.te == g.te && (m.safe == g.safe && true)))))
theorem neq_ms (m g : Ms) (x y : Operand) : binD Try.prog .neq 72 x y (.agg m.C) (.agg g.C) = some (Bo (!(msEq m g))) := by
  refine binD_neq_agg (P := Try.prog) (t := 72) (x := x) (y := y) (us := m.C) (ws := g.C) (va := m.V) (vb := g.V) (r := msEq m g) rfl rfl (by kernel_rfl) ?_
  refine (pr_equalIn_struct 9999 _ _ _ (by kernel_rfl) (by kernel_rfl)).trans ?_
  obtain ⟨i, hi, hs⟩ := info_of (P := Try.prog) (t := 60) (n := 3) (by kernel_rfl)
  obtain ⟨j, hj, ht⟩ := info_of (P := Try.prog) (t := 69) (n := 3) (by kernel_rfl)
  simp only [Program.fieldsOf, Try.underlying72]
  refine pr_eqF (a := .agg #[.bool m.a.is, .bool m.b.is, .bool m.c.is]) (b := .agg #[.bool g.a.is, .bool g.b.is, .bool g.c.is]) ?_ ?_ ?_ ?_ (pr_eqF (a := .agg #[.int .i64 m.a.cnt, .int .i64 m.b.cnt, .int .i64 m.c.cnt]) (b := .agg #[.int .i64 g.a.cnt, .int .i64 g.b.cnt, .int .i64 g.c.cnt]) ?_ ?_ ?_ ?_ (pr_eqF (a := .agg #[.int .i64 m.a.lat, .int .i64 m.b.lat, .int .i64 m.c.lat]) (b := .agg #[.int .i64 g.a.lat, .int .i64 g.b.lat, .int .i64 g.c.lat]) ?_ ?_ ?_ ?_ (pr_eqF (a := .int .i64 m.sp) (b := .int .i64 g.sp) ?_ ?_ ?_ ?_ (pr_eqF (a := .int .i64 m.te) (b := .int .i64 g.te) ?_ ?_ ?_ ?_ (pr_eqF (a := .bool m.safe) (b := .bool g.safe) ?_ ?_ ?_ ?_ ?_)))))
  · decide
  · exact pr_part_agg (by kernel_rfl) hi hs rfl
  · exact pr_part_agg (by kernel_rfl) hi hs rfl
  · exact pr_eq3_bool Try.underlying60 Try.underlying4 (by kernel_rfl) _ _ _ _ _ _
  · decide
  · exact pr_part_agg (by kernel_rfl) hj ht rfl
  · exact pr_part_agg (by kernel_rfl) hj ht rfl
  · exact pr_eq3_int Try.underlying69 Try.underlying3 (by kernel_rfl) _ _ _ _ _ _
  · decide
  · exact pr_part_agg (by kernel_rfl) hj ht rfl
  · exact pr_part_agg (by kernel_rfl) hj ht rfl
  · exact pr_eq3_int Try.underlying69 Try.underlying3 (by kernel_rfl) _ _ _ _ _ _
  · decide
  · exact pr_part_int Try.underlying3 rfl
  · exact pr_part_int Try.underlying3 rfl
  · exact pr_equalIn_int 9998 _ _ .i64 _ _ Try.underlying3
  · decide
  · exact pr_part_int Try.underlying3 rfl
  · exact pr_part_int Try.underlying3 rfl
  · exact pr_equalIn_int 9998 _ _ .i64 _ _ Try.underlying3
  · decide
  · exact pr_part_bool Try.underlying4 rfl
  · exact pr_part_bool Try.underlying4 rfl
  · exact pr_equalIn_bool 9998 _ _ _ Try.underlying4
  · rfl
end Go.Proofs.Ytigfninpflemnab
