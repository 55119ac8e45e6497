/- The law ModesDo: it answers true. -/
import Derived.Test.YtigfninpflemnabFLModesDo
import Derived.Test.YtigfninpflemnabGRef14
import Derived.Test.YtigfninpflemnabLModesFall
-- NEEDS: triunelaw14.ModesDo
namespace Go.Proofs.Ytigfninpflemnab
open Go
set_option linter.unusedSimpArgs false
set_option linter.unusedVariables false
set_option maxRecDepth 100000
theorem neq_rms (m g : Ms) (x y : Operand) : binD Try.prog .neq 71 x y (.agg m.C) (.agg g.C) = some (Bo (!(msEq m g))) := by
  refine binD_neq_agg (P := Try.prog) (t := 71) (x := x) (y := y) (us := m.C) (ws := g.C) (va := m.V) (vb := g.V) (r := msEq m g) rfl rfl (by kernel_rfl) ?_
  refine (pr_equalIn_struct 9999 _ _ _ (by kernel_rfl) (by kernel_rfl)).trans ?_
  obtain ⟨i, hi, hs⟩ := info_of (P := Try.prog) (t := 60) (n := 3) (by kernel_rfl)
  obtain ⟨j, hj, ht⟩ := info_of (P := Try.prog) (t := 69) (n := 3) (by kernel_rfl)
  simp only [Program.fieldsOf, Try.underlying71]
  refine pr_eqF (a := .agg #[.bool m.a.is, .bool m.b.is, .bool m.c.is]) (b := .agg #[.bool g.a.is, .bool g.b.is, .bool g.c.is]) ?_ ?_ ?_ ?_ (pr_eqF (a := .agg #[.int .i64 m.a.cnt, .int .i64 m.b.cnt, .int .i64 m.c.cnt]) (b := .agg #[.int .i64 g.a.cnt, .int .i64 g.b.cnt, .int .i64 g.c.cnt]) ?_ ?_ ?_ ?_ (pr_eqF (a := .agg #[.int .i64 m.a.lat, .int .i64 m.b.lat, .int .i64 m.c.lat]) (b := .agg #[.int .i64 g.a.lat, .int .i64 g.b.lat, .int .i64 g.c.lat]) ?_ ?_ ?_ ?_ (pr_eqF (a := .int .i64 m.sp) (b := .int .i64 g.sp) ?_ ?_ ?_ ?_ (pr_eqF (a := .int .i64 m.te) (b := .int .i64 g.te) ?_ ?_ ?_ ?_ (pr_eqF (a := .bool m.safe) (b := .bool g.safe) ?_ ?_ ?_ ?_ ?_)))))
  · decide
  · exact pr_part_agg (by kernel_rfl) hi hs rfl
  · exact pr_part_agg (by kernel_rfl) hi hs rfl
  · exact pr_eq3_bool Try.underlying60 Try.underlying4 (by kernel_rfl) _ _ _ _ _ _
  · decide
  · exact pr_part_agg (by kernel_rfl) hj ht rfl
  · exact pr_part_agg (by kernel_rfl) hj ht rfl
  · exact pr_eq3_int Try.underlying69 Try.underlying3 (by kernel_rfl) _ _ _ _ _ _
  · decide
  · exact pr_part_agg (by kernel_rfl) hj ht rfl
  · exact pr_part_agg (by kernel_rfl) hj ht rfl
  · exact pr_eq3_int Try.underlying69 Try.underlying3 (by kernel_rfl) _ _ _ _ _ _
  · decide
  · exact pr_part_int Try.underlying3 rfl
  · exact pr_part_int Try.underlying3 rfl
  · exact pr_equalIn_int 9998 _ _ .i64 _ _ Try.underlying3
  · decide
  · exact pr_part_int Try.underlying3 rfl
  · exact pr_part_int Try.underlying3 rfl
  · exact pr_equalIn_int 9998 _ _ .i64 _ _ Try.underlying3
  · decide
  · exact pr_part_bool Try.underlying4 rfl
  · exact pr_part_bool Try.underlying4 rfl
  · exact pr_equalIn_bool 9998 _ _ _ Try.underlying4
  · rfl
theorem msR_wf (n : Nat) (m : Ms) : WfB n m.R := by
  unfold Ms.R
  intro d hd
  simp at hd
  rcases hd with rfl | rfl | rfl | rfl | rfl | rfl | rfl | rfl | rfl | rfl | rfl | rfl | rfl <;> rfl
def actB (x : Act) : DBlk := .cells 64 [I .i64 x.do_, I .i64 x.ch, Bo x.b0, Bo x.b1, Bo x.b2, Bo x.sp, Bo x.f0, Bo x.f1, Bo x.f2]
theorem Do_L0 (n : Nat) (hn : 20 ≤ n) (l : List Act) (tl : Tag) (hl : l.length ≤ 200) : ∀ (mm i : Nat) (m : Ms) (H : Heap), l.length < mm + i → i ≤ l.length → H[0]? = some m.B → H[1]? = some m.R → WfH H → MsOk m i → MsLat m →
    ∃ H', ∀ K, s_triunelaw14_ModesDo_L0 n 0 K mm (LV 9 acE l tl) (Bo true) (.ptr 0 0) (.ptr 1 0) (I .i64 i) H = K (.exit 0) (s_triunelaw14_ModesDo_O0 .any (Bo true)) H' := by
  intro mm
  induction mm with
  | zero => intro i m H h; omega
  | succ mm ih =>
    intro i m H hm hi hk h1 hw ok lat
    by_cases h : i < l.length
    · have hkl := hp_lt hk
      have h1l := hp_lt h1
      have hi2 : ((i + 1 : Nat) : Int) = (i : Int) + 1 := by omega
      have gok := doV_ok ok l[i]
      have glat := doV_lat lat l[i]
      have hw1 : WfH (H ++ [actB l[i]]) := hw.app (by intro b hb; simp at hb; subst hb; exact act_wf _ _)
      have hD := do_c n 0 0 (H ++ [actB l[i]]) m l[i] (by omega) (by omega) (by rw [hp_get_left _ _ _ hkl]; exact hk) hw1 1000 (by omega) (ok.mono (by omega))
      obtain ⟨e, g, hg⟩ : ∃ e g, doV m l[i] = (e, g) := ⟨_, _, rfl⟩
      rw [hg] at hD gok glat
      simp only at hD gok glat
      have hse : (H ++ [actB l[i]]).set 0 g.B = H.set 0 g.B ++ [actB l[i]] := hp_set_left _ _ _ _ hkl
      rw [hse] at hD
      have hw2 : WfH (H.set 0 g.B ++ [actB l[i]]) := by rw [← hse]; exact hw1.set 0 (msB_wf _ _)
      have h12 : (H.set 0 g.B ++ [actB l[i]])[1]? = some m.R := by rw [hp_get_left _ _ _ (by simpa using h1l), hp_set_ne _ _ _ _ (by omega)]; exact h1
      have hse2 : (H.set 0 g.B ++ [actB l[i]]).set 1 g.R = (H.set 0 g.B).set 1 g.R ++ [actB l[i]] := hp_set_left _ _ _ _ (by simpa using h1l)
      have hw3 : WfH ((H.set 0 g.B).set 1 g.R ++ [actB l[i]]) := by rw [← hse2]; exact hw2.set 1 (msR_wf _ _)
      have k0 : ((H.set 0 g.B).set 1 g.R ++ [actB l[i]])[0]? = some g.B := by rw [hp_get_left _ _ _ (by simpa using hkl), hp_set_ne _ _ _ _ (by omega)]; exact hp_set_get _ _ _ hkl
      have k1 : ((H.set 0 g.B).set 1 g.R ++ [actB l[i]])[1]? = some g.R := by rw [hp_get_left _ _ _ (by simpa using h1l)]; exact hp_set_get _ _ _ (by simpa using h1l)
      obtain ⟨H', q⟩ := ih (i + 1) g _ (by omega) (by omega) k0 k1 hw3 (by rw [hi2]; exact gok) glat
      rw [hi2] at q
      have hS := modes_State_c n 0 _ g (by omega) k0
      have hM := modes_Mode_c n g (by omega)
      have hM2 := rmodes_Mode_c n g (by omega)
      have hgg := neq_rms g g
      simp only [msEq_refl, Bool.not_true] at hgg
      have hac := acE_cells l[i]
      have okx : MsOk m 1000 := ok.mono (by omega)
      refine ⟨H', fun K => ?_⟩
      -- the document's act
      have fin : ∀ K, s_triunelaw14_ModesDo_L0 n 0 K (mm + 1) (LV 9 acE l tl) (Bo true) (.ptr 0 0) (.ptr 1 0) (I .i64 i) H = s_triunelaw14_ModesDo_L0 n 0 K mm (LV 9 acE l tl) (Bo true) (.ptr 0 0) (.ptr 1 0) (I .i64 (i + 1)) ((H.set 0 g.B).set 1 g.R ++ [actB l[i]]) := by
        intro K
        rw [s_triunelaw14_ModesDo_L0]
        unfold s_triunelaw14_ModesDo_B0
        unfold doV at hg
        unfold acE at hD
        by_cases c0 : l[i].do_ = 0
        · rw [if_pos c0] at hg
          obtain ⟨rfl, rfl⟩ := Prod.mk.inj hg
          have hR := rmodes_Round_c n 1 0 _ m l[i].b0 l[i].b1 l[i].b2 l[i].sp (by omega) (by omega) h12 hw2 1000 (by omega) okx lat
          rw [hse2] at hR
          generalize msRound m l[i].b0 l[i].b1 l[i].b2 l[i].sp = g at *
          unfold actB at *
          unfold Ms.C at hS hM hM2 hgg
          unfold Ms.R at k1 hR hS ⊢
          simp -implicitDefEqProofs (disch := first | omega | (simp only [List.length_set, List.length_append, List.length_cons, List.length_nil, List.length_take, List.length_drop, List.length_map]; omega) | simp) [wrap_i64, wrap_u16_id, wrap_u8_id, tdiv_pos, tmod_pos, -getElem?_pos, -getElem?_neg, -List.length_eq_zero_iff, -List.getElem_cons_drop, h, hac, hD, hR, hkl, h1l, hS, k1, hgg, hM, hM2]
        rw [if_neg c0] at hg
        by_cases c1 : l[i].do_ = 1
        · rw [if_pos c1] at hg
          by_cases cc : 0 ≤ l[i].ch ∧ l[i].ch < 3
          · rw [if_neg (by simpa using cc)] at hg
            by_cases cs : m.safe = true ∨ (m.a.is && m.b.is && m.c.is) = false
            · rw [if_pos cs] at hg
              obtain ⟨rfl, rfl⟩ := Prod.mk.inj hg
              have hR := rmodes_Test_bad n 1 0 _ m l[i].ch (by omega) h12 hw2 cc cs
              have e2 : (H.set 0 m.B).set 1 m.R ++ [actB l[i]] = H.set 0 m.B ++ [actB l[i]] := by rw [← hse2, hp_set_id h12]
              have k1' := k1
              rw [e2] at hS k1' ⊢
              unfold actB at *
              unfold Ms.C at hS hM hM2 hgg
              unfold Ms.R at k1'
              simp -implicitDefEqProofs (disch := first | omega | (simp only [List.length_set, List.length_append, List.length_cons, List.length_nil, List.length_take, List.length_drop, List.length_map]; omega) | simp) [wrap_i64, wrap_u16_id, wrap_u8_id, tdiv_pos, tmod_pos, -getElem?_pos, -getElem?_neg, -List.length_eq_zero_iff, -List.getElem_cons_drop, h, hac, hD, hR, hkl, h1l, hS, k1', hgg, hM, hM2]
            · rw [if_neg cs] at hg
              obtain ⟨rfl, rfl⟩ := Prod.mk.inj hg
              have s1 : m.safe = false := by
                cases hh : m.safe with
                | false => rfl
                | true => exact absurd (.inl hh) cs
              have s2 : (m.a.is && m.b.is && m.c.is) = true := by
                cases hh : (m.a.is && m.b.is && m.c.is) with
                | true => rfl
                | false => exact absurd (.inr hh) cs
              have hR := rmodes_Test_c n 1 0 _ m l[i].ch (by omega) (by omega) h12 hw2 cc s1 s2
              rw [hse2] at hR
              generalize msTest m l[i].ch = g at *
              unfold actB at *
              unfold Ms.C at hS hM hM2 hgg
              unfold Ms.R at k1 hR hS ⊢
              simp -implicitDefEqProofs (disch := first | omega | (simp only [List.length_set, List.length_append, List.length_cons, List.length_nil, List.length_take, List.length_drop, List.length_map]; omega) | simp) [wrap_i64, wrap_u16_id, wrap_u8_id, tdiv_pos, tmod_pos, -getElem?_pos, -getElem?_neg, -List.length_eq_zero_iff, -List.getElem_cons_drop, h, hac, hD, hR, hkl, h1l, hS, k1, hgg, hM, hM2]
          · rw [if_pos cc] at hg
            obtain ⟨rfl, rfl⟩ := Prod.mk.inj hg
            have hR := rmodes_Test_no n 1 0 _ l[i].ch (by omega) hw2 cc
            have e2 : (H.set 0 m.B).set 1 m.R ++ [actB l[i]] = H.set 0 m.B ++ [actB l[i]] := by rw [← hse2, hp_set_id h12]
            have k1' := k1
            rw [e2] at hS k1' ⊢
            unfold actB at *
            unfold Ms.C at hS hM hM2 hgg
            unfold Ms.R at k1'
            simp -implicitDefEqProofs (disch := first | omega | (simp only [List.length_set, List.length_append, List.length_cons, List.length_nil, List.length_take, List.length_drop, List.length_map]; omega) | simp) [wrap_i64, wrap_u16_id, wrap_u8_id, tdiv_pos, tmod_pos, -getElem?_pos, -getElem?_neg, -List.length_eq_zero_iff, -List.getElem_cons_drop, h, hac, hD, hR, hkl, h1l, hS, k1', hgg, hM, hM2]
        rw [if_neg c1] at hg
        by_cases c2 : l[i].do_ = 2
        · rw [if_pos c2] at hg
          cases cf : allF m l[i].f0 l[i].f1 l[i].f2 with
          | true =>
            rw [if_pos cf] at hg
            obtain ⟨rfl, rfl⟩ := Prod.mk.inj hg
            have hR := rmodes_Reset_c n 1 0 _ m l[i].f0 l[i].f1 l[i].f2 (by omega) (by omega) h12 hw2 cf
            rw [hse2] at hR
            generalize ms0 m.strikes = g at *
            unfold actB at *
            unfold Ms.C at hS hM hM2 hgg
            unfold Ms.R at k1 hR hS ⊢
            simp -implicitDefEqProofs (disch := first | omega | (simp only [List.length_set, List.length_append, List.length_cons, List.length_nil, List.length_take, List.length_drop, List.length_map]; omega) | simp) [wrap_i64, wrap_u16_id, wrap_u8_id, tdiv_pos, tmod_pos, -getElem?_pos, -getElem?_neg, -List.length_eq_zero_iff, -List.getElem_cons_drop, h, hac, hD, hR, hkl, h1l, hS, k1, hgg, hM, hM2]
          | false =>
            rw [if_neg (by simp [cf])] at hg
            obtain ⟨rfl, rfl⟩ := Prod.mk.inj hg
            have hR := rmodes_Reset_no n 1 0 _ m l[i].f0 l[i].f1 l[i].f2 (by omega) (by omega) h12 hw2 cf
            have e2 : (H.set 0 m.B).set 1 m.R ++ [actB l[i]] = H.set 0 m.B ++ [actB l[i]] := by rw [← hse2, hp_set_id h12]
            have k1' := k1
            rw [e2] at hS k1' ⊢
            unfold actB at *
            unfold Ms.C at hS hM hM2 hgg
            unfold Ms.R at k1'
            simp -implicitDefEqProofs (disch := first | omega | (simp only [List.length_set, List.length_append, List.length_cons, List.length_nil, List.length_take, List.length_drop, List.length_map]; omega) | simp) [wrap_i64, wrap_u16_id, wrap_u8_id, tdiv_pos, tmod_pos, -getElem?_pos, -getElem?_neg, -List.length_eq_zero_iff, -List.getElem_cons_drop, h, hac, hD, hR, hkl, h1l, hS, k1', hgg, hM, hM2]
        rw [if_neg c2] at hg
        by_cases cc : 0 ≤ l[i].ch ∧ l[i].ch < 3
        · rw [if_neg (by simpa using cc)] at hg
          obtain ⟨rfl, rfl⟩ := Prod.mk.inj hg
          have hR := rmodes_Fault_c n 1 0 _ m l[i].ch (by omega) (by omega) h12 hw2 lat cc
          rw [hse2] at hR
          generalize msFault m l[i].ch = g at *
          unfold actB at *
          unfold Ms.C at hS hM hM2 hgg
          unfold Ms.R at k1 hR hS ⊢
          simp -implicitDefEqProofs (disch := first | omega | (simp only [List.length_set, List.length_append, List.length_cons, List.length_nil, List.length_take, List.length_drop, List.length_map]; omega) | simp) [wrap_i64, wrap_u16_id, wrap_u8_id, tdiv_pos, tmod_pos, -getElem?_pos, -getElem?_neg, -List.length_eq_zero_iff, -List.getElem_cons_drop, h, hac, hD, hR, hkl, h1l, hS, k1, hgg, hM, hM2]
        · rw [if_pos cc] at hg
          obtain ⟨rfl, rfl⟩ := Prod.mk.inj hg
          have hR := rmodes_Fault_no n 1 0 _ l[i].ch (by omega) hw2 cc
          have e2 : (H.set 0 m.B).set 1 m.R ++ [actB l[i]] = H.set 0 m.B ++ [actB l[i]] := by rw [← hse2, hp_set_id h12]
          have k1' := k1
          rw [e2] at hS k1' ⊢
          unfold actB at *
          unfold Ms.C at hS hM hM2 hgg
          unfold Ms.R at k1'
          simp -implicitDefEqProofs (disch := first | omega | (simp only [List.length_set, List.length_append, List.length_cons, List.length_nil, List.length_take, List.length_drop, List.length_map]; omega) | simp) [wrap_i64, wrap_u16_id, wrap_u8_id, tdiv_pos, tmod_pos, -getElem?_pos, -getElem?_neg, -List.length_eq_zero_iff, -List.getElem_cons_drop, h, hac, hD, hR, hkl, h1l, hS, k1', hgg, hM, hM2]
      rw [fin, q]
    · have : i = l.length := by omega
      subst this
      exact ⟨H, fun K => by unfold s_triunelaw14_ModesDo_L0 s_triunelaw14_ModesDo_B0; simp -implicitDefEqProofs (disch := first | omega | (simp only [List.length_set, List.length_append, List.length_cons, List.length_nil, List.length_take, List.length_drop, List.length_map]; omega) | simp) [wrap_i64, wrap_u16_id, wrap_u8_id, tdiv_pos, tmod_pos, -getElem?_pos, -getElem?_neg, -List.length_eq_zero_iff, -List.getElem_cons_drop]⟩
theorem Do_run (n : Nat) (up : cP n 23 false [] = some (Bo true)) (hn : 3000 ≤ n) (s : Int) (l : List Act) :
    ∃ H', s_triunelaw14_ModesDo n [] 0 (I .i64 s) (LV 9 acE l .sh) = some (Bo true, H') := by
  have hp0 : ∀ k x, binD Try.prog .eql 53 x (.const (.pointer none)) (.ptr k 0) (.flat (.pointer none)) = some (Bo false) := fun k x => binD_ptr_nil Try.underlying53 _ _ _ _
  have hp1 : ∀ x, binD Try.prog .eql 53 x (.const (.pointer none)) (.flat (.pointer none)) (.flat (.pointer none)) = some (Bo true) := fun x => by kernel_rfl
  have hr0 : ∀ k x, binD Try.prog .eql 57 x (.const (.pointer none)) (.ptr k 0) (.flat (.pointer none)) = some (Bo false) := fun k x => binD_ptr_nil Try.underlying57 _ _ _ _
  have hr1 : ∀ x, binD Try.prog .eql 57 x (.const (.pointer none)) (.flat (.pointer none)) (.flat (.pointer none)) = some (Bo true) := fun x => by kernel_rfl
  by_cases c1 : 200 < l.length
  · exact ⟨_, by unfold s_triunelaw14_ModesDo; simp -implicitDefEqProofs (disch := first | omega | (simp only [List.length_set, List.length_append, List.length_cons, List.length_nil, List.length_take, List.length_drop, List.length_map]; omega) | simp) [wrap_i64, wrap_u16_id, wrap_u8_id, tdiv_pos, tmod_pos, -getElem?_pos, -getElem?_neg, -List.length_eq_zero_iff, -List.getElem_cons_drop, up, c1]; rfl⟩
  by_cases c0 : 1 ≤ s ∧ s ≤ 20
  · have hN := modes_New_c n 0 [] s (by omega) c0
    have hN2 := rmodes_New_c n 0 [(ms0 s).B] s (by omega) c0
    simp only [List.length_nil, List.nil_append, List.length_cons, List.cons_append] at hN hN2
    have hw0 : WfH [(ms0 s).B, (ms0 s).R] := by
      intro b hb
      simp at hb
      rcases hb with rfl | rfl
      · exact msB_wf _ _
      · exact msR_wf _ _
    obtain ⟨H', q⟩ := Do_L0 n (by omega) l .sh (by omega) n 0 (ms0 s) [(ms0 s).B, (ms0 s).R] (by omega) (by omega) rfl rfl hw0 (ms0_ok s) (ms0_lat s)
    have q' := fun K => (s_triunelaw14_ModesDo_L0_eq n 0 K n (LV 9 acE l .sh) (Bo true) (.ptr 0 0) (.ptr 1 0) (I .i64 0) [(ms0 s).B, (ms0 s).R]).trans (q K)
    exact ⟨H', by unfold s_triunelaw14_ModesDo; simp -implicitDefEqProofs (disch := first | omega | (simp only [List.length_set, List.length_append, List.length_cons, List.length_nil, List.length_take, List.length_drop, List.length_map]; omega) | simp) [wrap_i64, wrap_u16_id, wrap_u8_id, tdiv_pos, tmod_pos, -getElem?_pos, -getElem?_neg, -List.length_eq_zero_iff, -List.getElem_cons_drop, up, hN, hN2, hp0, hr0, c1, q', s_triunelaw14_ModesDo_O0]⟩
  · have hN := modes_New_no n 0 [] s (by omega) c0
    have hN2 := rmodes_New_no n 0 [] s (by omega) c0
    exact ⟨_, by unfold s_triunelaw14_ModesDo; simp -implicitDefEqProofs (disch := first | omega | (simp only [List.length_set, List.length_append, List.length_cons, List.length_nil, List.length_take, List.length_drop, List.length_map]; omega) | simp) [wrap_i64, wrap_u16_id, wrap_u8_id, tdiv_pos, tmod_pos, -getElem?_pos, -getElem?_neg, -List.length_eq_zero_iff, -List.getElem_cons_drop, up, c1, hN, hN2, hp1, hr1]; rfl⟩
theorem ModesDo_all (e0 e1 : List DV) (h0 : Shp Try.prog 8 3 e0) (h1 : Shp Try.prog 8 52 e1) :
    ∃ H', callG Try.prog ENV 4000 5 [elOf (isAgT Try.prog 3) e0, elOf (isAgT Try.prog 52) e1] [] 0 = some (.flat (.bool true), H') := by
  obtain ⟨s, rfl, _⟩ := shp_int (k := .i64) Try.underlying3 h0
  obtain ⟨l, rfl, _, _⟩ := shp_slice (e := 64) acE (fun _ => True) (sz := 9) Try.underlying52 (by kernel_rfl) (fun x hx => shp_act (d := 3) hx) h1
  have r : ∀ a, elOf (isAgT Try.prog 3) [.flat (.int .i64 a)] = I .i64 a := fun a => by kernel_rfl
  have r1 : elOf (isAgT Try.prog 52) [LV 9 acE l .sh] = LV 9 acE l .sh := by kernel_rfl
  obtain ⟨H', h⟩ := Do_run 3999 awake14 (by omega) s l
  rw [r, r1]
  exact ⟨H', (s_triunelaw14_ModesDo_eq 3999 [] 0 _ _).trans h⟩
end Go.Proofs.Ytigfninpflemnab
