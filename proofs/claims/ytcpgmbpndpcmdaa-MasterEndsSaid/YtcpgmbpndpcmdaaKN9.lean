/- Texts of mine, laid together: EndsX, EndsT, LEndsN, LEndsJ. -/
import Derived.Test.YtcpgmbpndpcmdaaKN8
namespace Go.Proofs.Ytcpgmbpndpcmdaa
open Go Go.RowKit
set_option linter.unusedSimpArgs false
set_option linter.unusedVariables false
def gh3 (c1 c2 c3 : Nat) : Gh := [.cel c1, .cel c2, .cel c3]
theorem live3 {c1 c2 c3 k b : Nat} (h : liveAt (gh3 c1 c2 c3) k b) : (k = 0 ∧ b = c1) ∨ (k = 1 ∧ b = c2) ∨ (k = 2 ∧ b = c3) := by
  unfold gh3 at h
  rcases h with h | ⟨sz, cap, hw, h⟩
  · match k, h with
    | 0, h => injection h with h; injection h with h; exact .inl ⟨rfl, h.symm⟩
    | 1, h => injection h with h; injection h with h; exact .inr (.inl ⟨rfl, h.symm⟩)
    | 2, h => injection h with h; injection h with h; exact .inr (.inr ⟨rfl, h.symm⟩)
    | k + 3, h => simp at h
  · match k, h with
    | 0, h => injection h with h; cases h
    | 1, h => injection h with h; cases h
    | 2, h => injection h with h; cases h
    | k + 3, h => simp at h
theorem imm3 {c1 c2 c3 b j : Nat} (n1 : b ≠ c1) (n2 : b ≠ c2) (n3 : b ≠ c3) : ImmB (fun _ _ => True) (gh3 c1 c2 c3) b j := by
  refine ⟨trivial, fun k hk => ?_, fun k s c n hk => ?_⟩
  · rcases live3 (.inl hk) with ⟨_, h⟩ | ⟨_, h⟩ | ⟨_, h⟩
    · exact n1 h
    · exact n2 h
    · exact n3 h
  · rcases live3 (.inr ⟨s, c, n, hk⟩) with ⟨rfl, h⟩ | ⟨rfl, h⟩ | ⟨rfl, h⟩ <;> (unfold gh3 at hk; injection hk with hk; cases hk)
def slotsE (x2 x3 x4 x7 x8 x16 x18 x19 : DV) : List DV := (List.range 219).map fun i => if i = 2 then x2 else if i = 3 then x3 else if i = 4 then x4 else if i = 7 then x7 else if i = 8 then x8 else if i = 16 then x16 else if i = 18 then x18 else if i = 19 then x19 else .any
theorem slotsE_eq (x2 x3 x4 x7 x8 x16 x18 x19 : DV) : s_triunelaw08_MasterEnds_I3 x2 x3 x4 x7 x8 x16 x18 x19 = slotsE x2 x3 x4 x7 x8 x16 x18 x19 := by kernel_rfl
theorem slotsE_rep {I : Nat → Nat → Prop} {w : World} {G : Gh} {x2 x3 x4 x7 x8 x16 x18 x19 : DV} {v2 v3 v4 v7 v8 v16 v18 v19 : Value} {vs : Array Value} (hs : vs.size = 219)
    (t2 : vs[2]? = some v2) (t3 : vs[3]? = some v3) (t4 : vs[4]? = some v4) (t7 : vs[7]? = some v7) (t8 : vs[8]? = some v8) (t16 : vs[16]? = some v16) (t18 : vs[18]? = some v18) (t19 : vs[19]? = some v19)
    (r2 : Rep I w G x2 v2) (r3 : Rep I w G x3 v3) (r4 : Rep I w G x4 v4) (r7 : Rep I w G x7 v7) (r8 : Rep I w G x8 v8) (r16 : Rep I w G x16 v16) (r18 : Rep I w G x18 v18) (r19 : Rep I w G x19 v19) :
    RepL I w G (s_triunelaw08_MasterEnds_I3 x2 x3 x4 x7 x8 x16 x18 x19) vs.toList := by
  rw [slotsE_eq]
  refine RepL.of (by simp [slotsE, hs]) fun i d v hd hv => ?_
  unfold slotsE at hd
  rw [List.getElem?_map] at hd
  have hi : i < 219 := by
    have := (List.getElem?_eq_some_iff.1 hv).1
    simpa [hs] using this
  rw [List.getElem?_range hi] at hd
  simp only [Option.map_some, Option.some.injEq] at hd
  rw [Array.getElem?_toList] at hv
  subst hd
  by_cases e : i = 2
  · subst e; rw [t2] at hv; cases hv; exact r2
  rw [if_neg e]; clear e
  by_cases e : i = 3
  · subst e; rw [t3] at hv; cases hv; exact r3
  rw [if_neg e]; clear e
  by_cases e : i = 4
  · subst e; rw [t4] at hv; cases hv; exact r4
  rw [if_neg e]; clear e
  by_cases e : i = 7
  · subst e; rw [t7] at hv; cases hv; exact r7
  rw [if_neg e]; clear e
  by_cases e : i = 8
  · subst e; rw [t8] at hv; cases hv; exact r8
  rw [if_neg e]; clear e
  by_cases e : i = 16
  · subst e; rw [t16] at hv; cases hv; exact r16
  rw [if_neg e]; clear e
  by_cases e : i = 18
  · subst e; rw [t18] at hv; cases hv; exact r18
  rw [if_neg e]; clear e
  by_cases e : i = 19
  · subst e; rw [t19] at hv; cases hv; exact r19
  rw [if_neg e]
  simp only [Rep]
theorem lv_slice {I : Nat → Nat → Prop} {w : World} {G : Gh} {α : Type} {f : α → DV} {l : List α} {t : Tag} {V : Value} (h : Rep I w G (LV 1 f l t) V) : ∃ A c, V = .slice A l.length c := by
  obtain ⟨s, e, _⟩ := LV_list 1 f l t
  rw [e] at h
  simp only [Rep] at h
  obtain ⟨A, c, rfl, _⟩ := h
  exact ⟨A, c, by simp⟩
def kE : Ex → KF := fun x s H => match x with | .ret => some (s.getD 6 .any, H) | _ => none
def kD : Ex → St → R := fun x S => match x with | .ret => some (S.slots.getD 6 .any, S.heap) | _ => none
def kL (out : List Nat) (N : Nat) : Ex → KF := fun x s'' H'' => match x with | .normal => none | .exit i => forceL (forget out N s'') (fun s => kE (.exit i) s H'') | .ret => forceL (forget out N s'') fun s => kE .ret s H''
set_option maxRecDepth 20000 in
theorem ends_wp (u g wt tr : Int) (a : Rq) (hC : CfgP u g wt tr) (hw : wt ≤ 60) (hR : RightP a) (oa : RqOk a) (noise : List (List Int)) (hnl : noise.length ≤ 200) (hnb : ∀ b ∈ noise, Bytes b ∧ b.length ≤ 400)
    (w : World) (c1 c2 c3 : Nat) (d12 : c1 ≠ c2) (d13 : c1 ≠ c3) (d23 : c2 ≠ c3) (v1 v2 vw vb vn vf : Value)
    (h1 : BX w c1 23 #[.int .u8 u, .int .i64 g, .int .i64 wt, .int .i64 tr])
    (h2 : BX w c2 28 #[.int .i64 a.code, .int .i64 a.addr, .int .i64 a.cnt, .int .i64 a.to_, vw, vb, .int .u16 a.and_, .int .u16 a.or_])
    (h3 : BX w c3 62 (mstV u g wt tr 1 g 0 0 a.code a.addr a.cnt a.to_ v1 v2 a.and_ a.or_ (.slice none 0 0)))
    (rw_ : Rep (fun b _ => b ≠ c1 ∧ b ≠ c2 ∧ b ≠ c3) w [] (LV 1 (I .u16) a.words .sh) vw) (rb : Rep (fun b _ => b ≠ c1 ∧ b ≠ c2 ∧ b ≠ c3) w [] (LV 1 Bo a.bits .sh) vb)
    (r1 : Rep (fun b _ => b ≠ c1 ∧ b ≠ c2 ∧ b ≠ c3) w [] (LV 1 (I .u16) a.words .sh) v1) (r2 : Rep (fun b _ => b ≠ c1 ∧ b ≠ c2 ∧ b ≠ c3) w [] (LV 1 Bo a.bits .sh) v2)
    (rn : Rep (fun b _ => b ≠ c1 ∧ b ≠ c2 ∧ b ≠ c3) w [] (LV 1 nsE noise .sh) vn) (rf : Rep (fun b _ => b ≠ c1 ∧ b ≠ c2 ∧ b ≠ c3) w [] (LV 1 (I .u8) (putI (u :: textV a)) .sh) vf)
    (act : Act) (hd : act.defers = []) (hs : act.tmps.size = 219) (t2 : act.tmps[2]? = some vn) (t3 : act.tmps[3]? = some (.pointer (some ⟨c1, 0, none⟩))) (t4 : act.tmps[4]? = some (.pointer (some ⟨c2, 0, none⟩))) (t7 : act.tmps[7]? = some (.bool true)) (t8 : act.tmps[8]? = some (.pointer (some ⟨c3, 0, none⟩))) (t16 : act.tmps[16]? = some vf) (t18 : act.tmps[18]? = some (.int .i64 0)) (t19 : act.tmps[19]? = some (.int .i64 0))
    (Q : Exit → Act → World → Prop) (hQ : ∀ a' w', a'.tmps[6]? = some (.bool true) → a'.defers = [] → w'.os = w.os → w'.tape = w.tape → w'.output = w.output → w.heap.size ≤ w'.heap.size → (∀ b, b < w.heap.size → b ≠ c1 → b ≠ c2 → b ≠ c3 → w'.heap[b]? = w.heap[b]?) → Q .ret a' w') :
    (Code.loop (loopAt (bodyOf Try.f3) 3)).wp Try.prog Q act w := by
  obtain ⟨⟨u0, u1⟩, ⟨g0, g1⟩, ⟨w0, w1⟩, r0, r3⟩ := id hC
  have hmul : 3 * wt * tr ≤ 1000 := by
    have h1 : 3 * wt * tr ≤ 180 * 5 := Int.le_trans (Int.mul_le_mul_of_nonneg_right (by omega) (by omega)) (Int.mul_le_mul_of_nonneg_left (by omega) (by omega))
    omega
  have ok : MstOk ⟨u, g, wt, tr, 1, g, 0, 0, a, []⟩ 1000 := ⟨⟨by show 0 ≤ u; omega, by show u < 256; omega⟩, ⟨by show 0 ≤ wt; omega, by show wt ≤ _; omega⟩, .inr (.inl rfl), ⟨by show 0 ≤ g; omega, by show g ≤ _; omega⟩, ⟨by show (0 : Int) ≤ 0; decide, by show (0 : Int) ≤ _; decide⟩, ⟨by show (0 : Int) ≤ 0; decide, by show (0 : Int) ≤ _; decide⟩, fun _ => hR, oa, fun y hy => (by cases hy), by show (0 : Nat) ≤ 300; decide⟩
  have hI : EndI u g wt tr a ⟨u, g, wt, tr, 1, g, 0, 0, a, []⟩ 0 (3 * wt * tr) := by
    refine ⟨⟨rfl, rfl, rfl, rfl⟩, rfl, rfl, .inl ⟨rfl, ⟨by show (0 : Int) ≤ 0; decide, by show (0 : Int) < wt; omega⟩, ⟨by decide, by omega⟩, tr - 0 - 1, rfl, ?_⟩, ok⟩
    have := step3 wt (tr - 0 - 1)
    rw [show tr - 0 - 1 + 1 = tr by omega] at this
    show _ = (wt - 0) + 2 * wt + _
    omega
  have hH0 : EndH u g wt tr a ⟨u, g, wt, tr, 1, g, 0, 0, a, []⟩ [cfgB u g wt tr, .cells 28 (rqE a .sh .sh).cells, Mst.B ⟨u, g, wt, tr, 1, g, 0, 0, a, []⟩ .sh .sh .ti] .sh .sh .ti := by
    refine ⟨rfl, rfl, rfl, ?_, ⟨.inl rfl, .inl rfl, .inl rfl⟩⟩
    intro b hb
    simp only [List.mem_cons, List.not_mem_nil, or_false] at hb
    rcases hb with rfl | rfl | rfl
    · intro d hd; simp only [cfgB, List.mem_cons, List.not_mem_nil, or_false] at hd; rcases hd with rfl | rfl | rfl | rfl <;> rfl
    · intro d hd; simp only [rqE, cells_agg, List.mem_cons, List.not_mem_nil, or_false] at hd; rcases hd with rfl | rfl | rfl | rfl | rfl | rfl | rfl | rfl <;> simp
    · exact Mst.wf (.inl rfl) (.inl rfl) fun l => by simp
  obtain ⟨H', hL⟩ := ends_L 5000 (Nat.le_refl _) u g wt tr a hC hw hR oa noise hnl hnb .sh 5000 0 0 (3 * wt * tr) _ _ .sh .sh .ti (by omega) (by omega) hI (by omega) hH0
  have hG : execG ⟨Try.prog, callG Try.prog ENV2 5000, ENV2.md, 0, 219⟩ 5000 (.loop (loopAt (bodyOf Try.f3) 3)) [([2, 3, 4, 7, 8, 16, 18, 19], [6])] (s_triunelaw08_MasterEnds_I3 (LV 1 nsE noise .sh) (.ptr 0 0) (.ptr 1 0) (Bo true) (.ptr 2 0) (LV 1 (I .u8) (putI (u :: textV a)) .sh) (I .i64 0) (I .i64 0)) [cfgB u g wt tr, .cells 28 (rqE a .sh .sh).cells, Mst.B ⟨u, g, wt, tr, 1, g, 0, 0, a, []⟩ .sh .sh .ti] kE = some (Bo true, H') := by
    have hk : kL [6] 219 .ret (s_triunelaw08_MasterEnds_O3 (Bo true)) H' = some (Bo true, H') := by
      show forceL _ _ = _
      rw [forceL_eq]
      kernel_rfl
    refine Eq.trans ?_ ((s_triunelaw08_MasterEnds_L3_eq 5000 0 (kL [6] 219) 5000 (LV 1 nsE noise .sh) (.ptr 0 0) (.ptr 1 0) (Bo true) (.ptr 2 0) (LV 1 (I .u8) (putI (u :: textV a)) .sh) (I .i64 0) (I .i64 0) _).trans ((hL _).trans hk))
    simp only [execG]
    rw [forceL_eq]
    rfl
  have hcf := call_sound mixed noOwn primSound2 5000
  have hJ : ∀ b j, (b ≠ c1 ∧ b ≠ c2 ∧ b ≠ c3) → ImmB (fun _ _ => True) (gh3 c1 c2 c3) b j := fun b j ⟨n1, n2, n3⟩ => imm3 n1 n2 n3
  have up : ∀ {d V}, Rep (fun b _ => b ≠ c1 ∧ b ≠ c2 ∧ b ≠ c3) w [] d V → Rep (ImmB (fun _ _ => True) (gh3 c1 c2 c3)) w (gh3 c1 c2 c3) d V := fun h => rep_to h (fun _ _ => rfl) fun b j _ hj => hJ b j hj
  have rw_ := up rw_
  have rb := up rb
  have r1 := up r1
  have r2 := up r2
  have rn := up rn
  have rf := up rf
  obtain ⟨A1, k1, ew⟩ := lv_slice rw_
  obtain ⟨A2, k2, eb⟩ := lv_slice rb
  obtain ⟨A3, k3, e1⟩ := lv_slice r1
  obtain ⟨A4, k4, e2⟩ := lv_slice r2
  have o1 : isOne vw = true := by rw [ew]; rfl
  have o2 : isOne vb = true := by rw [eb]; rfl
  have o3 : isOne v1 = true := by rw [e1]; rfl
  have o4 : isOne v2 = true := by rw [e2]; rfl
  clear ew eb e1 e2
  have hHR : HR (fun _ _ => True) (gh3 c1 c2 c3) w [cfgB u g wt tr, .cells 28 (rqE a .sh .sh).cells, Mst.B ⟨u, g, wt, tr, 1, g, 0, 0, a, []⟩ .sh .sh .ti] := by
    refine ⟨rfl, fun k k' b h h' => ?_, fun k b gk hb hg => ?_, fun _ _ _ _ => trivial, laid_none _ _⟩
    · rcases live3 h with ⟨rfl, e⟩ | ⟨rfl, e⟩ | ⟨rfl, e⟩ <;> rcases live3 h' with ⟨rfl, e'⟩ | ⟨rfl, e'⟩ | ⟨rfl, e'⟩ <;> first | rfl | (exfalso; omega)
    · match k, hb, hg with
      | 0, hb, hg =>
        injection hb with hb; injection hg with hg; subst hb; subst hg
        refine ⟨_, h1, ?_, ?_⟩
        · simp only [RepL, Rep, I]
          exact ⟨_, _, rfl, rfl, _, _, rfl, rfl, _, _, rfl, rfl, _, _, rfl, rfl, rfl⟩
        · intro v hv
          simp at hv
          rcases hv with rfl | rfl | rfl | rfl <;> rfl
      | 1, hb, hg =>
        injection hb with hb; injection hg with hg; subst hb; subst hg
        refine ⟨_, h2, ?_, ?_⟩
        · unfold rqE
          simp only [cells_agg, RepL]
          exact ⟨_, _, rfl, (by simp only [I, Rep]), _, _, rfl, (by simp only [I, Rep]), _, _, rfl, (by simp only [I, Rep]), _, _, rfl, (by simp only [I, Rep]), _, _, rfl, rw_, _, _, rfl, rb, _, _, rfl, (by simp only [I, Rep]), _, _, rfl, (by simp only [I, Rep]), rfl⟩
        · intro v hv
          simp at hv
          rcases hv with rfl | rfl | rfl | rfl | rfl | rfl | rfl | rfl <;> first | rfl | assumption
      | 2, hb, hg =>
        injection hb with hb; injection hg with hg; subst hb; subst hg
        refine ⟨_, h3, ?_, ?_⟩
        · unfold mstV
          simp only [Mst.C, RepL]
          have hz : Rep (ImmB (fun _ _ => True) (gh3 c1 c2 c3)) w (gh3 c1 c2 c3) (LV 1 (I .u8) [] .ti) (.slice none 0 0) := by
            simp only [LV, List.map_nil, mkl, Rep, TagOk]
            exact ⟨none, 0, rfl, Nat.zero_le _, by simp, .inl trivial, rfl⟩
          exact ⟨_, _, rfl, (by simp only [I, Rep]), _, _, rfl, (by simp only [I, Rep]), _, _, rfl, (by simp only [I, Rep]), _, _, rfl, (by simp only [I, Rep]), _, _, rfl, (by simp only [I, Rep]), _, _, rfl, (by simp only [I, Rep]), _, _, rfl, (by simp only [I, Rep]), _, _, rfl, (by simp only [I, Rep]), _, _, rfl, (by simp only [I, Rep]), _, _, rfl, (by simp only [I, Rep]), _, _, rfl, (by simp only [I, Rep]), _, _, rfl, (by simp only [I, Rep]), _, _, rfl, r1, _, _, rfl, r2, _, _, rfl, (by simp only [I, Rep]), _, _, rfl, (by simp only [I, Rep]), _, _, rfl, hz, rfl⟩
        · intro v hv
          unfold mstV at hv
          simp at hv
          rcases hv with rfl | rfl | rfl | rfl | rfl | rfl | rfl | rfl | rfl | rfl | rfl | rfl | rfl | rfl | rfl | rfl | rfl <;> first | rfl | assumption
      | k + 3, hb, hg => simp at hb
  have hp : ∀ k c, (gh3 c1 c2 c3)[k]? = some (.cel c) → Rep (ImmB (fun _ _ => True) (gh3 c1 c2 c3)) w (gh3 c1 c2 c3) (.ptr k 0) (.pointer (some ⟨c, 0, none⟩)) := fun k c h => by
    simp only [Rep]
    exact ⟨c, h, rfl⟩
  have hSR := slotsE_rep hs t2 t3 t4 t7 t8 t16 t18 t19 rn (hp 0 c1 rfl) (hp 1 c2 rfl) (show Rep (ImmB (fun _ _ => True) (gh3 c1 c2 c3)) w (gh3 c1 c2 c3) (Bo true) (.bool true) by simp only [Bo, Rep]) (hp 2 c3 rfl) rf (show Rep (ImmB (fun _ _ => True) (gh3 c1 c2 c3)) w (gh3 c1 c2 c3) (I .i64 0) (.int .i64 0) by simp only [I, Rep]) (show Rep (ImmB (fun _ _ => True) (gh3 c1 c2 c3)) w (gh3 c1 c2 c3) (I .i64 0) (.int .i64 0) by simp only [I, Rep])
  have hk : ∀ (r : DV × Heap) x s H, kE x s H = some r → kD x ⟨s, H⟩ = some r := fun r x s H h => by
    cases x <;> exact h
  refine exec_sound (X := ⟨Try.prog, callN Try.prog ENV2 5000, ENV2.md, 0, 219⟩) mixed noOwn hcf 5000 _ _ ⟨_, _⟩ kD _ (execG_ok (callG_ok Try.prog ENV2 5000) _ _ _ _ kE kD (hk _) hG) (gh3 c1 c2 c3) w act (fun _ _ _ => trivial) hHR ⟨hd, hSR⟩ (Nat.zero_le _) (by kernel_rfl) Q ?_
  intro x S' a' w' G' hx hK hH' hS' hF hlen
  cases x with
  | normal => cases hx
  | exit i => cases hx
  | ret =>
    have e6 : S'.slots.getD 6 .any = Bo true := by
      unfold kD at hx
      simp only [Option.some.injEq, Prod.mk.injEq] at hx
      exact hx.1
    have e6' : S'.slots[6]? = some (Bo true) := by
      rw [List.getD_eq_getElem?_getD] at e6
      cases h : S'.slots[6]? with
      | none => rw [h] at e6; cases e6
      | some d => rw [h] at e6; simp only [Option.getD_some] at e6; rw [e6]
    obtain ⟨v, hv, hr⟩ := hS'.2.get 6 _ e6'
    simp only [Bo, Rep] at hr
    subst hr
    rw [Array.getElem?_toList] at hv
    exact hQ a' w' hv hS'.1 hK.os hK.tape hK.output hK.size fun b hb n1 n2 n3 => hK.blk b hb fun k hk => by
      rcases live3 hk with ⟨_, h⟩ | ⟨_, h⟩ | ⟨_, h⟩
      · exact n1 h
      · exact n2 h
      · exact n3 h
end Go.Proofs.Ytcpgmbpndpcmdaa
namespace Go.Proofs.Ytcpgmbpndpcmdaa
open Go Go.RowKit
set_option linter.unusedSimpArgs false
set_option linter.unusedVariables false
theorem noise_E {J : Nat → Nat → Prop} {w : World} {b : Nat} : ∀ (l : List (List Int)) (o : Nat), RepE J w 1 (l.map nsE) b o → ∀ (k : Nat) (h : k < l.length), ∃ A c, w.cell? ⟨b, o + k, none⟩ = some (.slice A (l[k]).length c)
  | [], o, _, k, h => by simp at h
  | x :: l, o, hE, k, h => by
    simp only [List.map_cons, RepE] at hE
    obtain ⟨⟨_, V, hV, hs, hc⟩, hE⟩ := hE
    unfold nsE at hV
    obtain ⟨A, c, rfl⟩ := lv_slice hV
    cases k with
    | zero => exact ⟨A, c, (hc 0 _ rfl).1⟩
    | succ k =>
      obtain ⟨A', c', h2⟩ := noise_E l (o + 1) hE k (by simpa using h)
      refine ⟨A', c', ?_⟩
      rw [show o + (k + 1) = o + 1 + k by omega]
      simpa using h2
theorem noise_at {J : Nat → Nat → Prop} {w : World} {G : Gh} {l : List (List Int)} {A : Option Addr} {n c : Nat} (h : Rep J w G (LV 1 nsE l .sh) (.slice A n c)) (k : Nat) (hk : k < l.length) : ∃ b o A' c', A = some ⟨b, o, none⟩ ∧ w.cell? ⟨b, o + k, none⟩ = some (.slice A' (l[k]).length c') := by
  obtain ⟨s, e, hs⟩ := LV_list 1 nsE l .sh
  rw [e] at h
  simp only [Rep] at h
  obtain ⟨A2, c2, e2, _, _, h3, _⟩ := h
  injection e2 with e3
  subst e3
  rcases h3 with h3 | ⟨b, o, rfl, hE⟩
  · simp at h3
    subst h3
    simp at hk
  · have h1 : s = 1 := by
      cases l with
      | nil => simp at hk
      | cons x l => simpa using hs
    subst h1
    obtain ⟨A', c', h⟩ := noise_E l o hE k hk
    exact ⟨b, o, A', c', rfl, h⟩
theorem w_rep {J : Nat → Nat → Prop} {w : World} {G : Gh} {l : List Int} {V : Value} (hw : Words l) (h : RdV encW w V (toW l)) (hi : ∀ p n c, V = .slice (some p) n c → toW l ≠ [] → ∀ j, J p.block j) : Rep J w G (LV 1 (I .u16) l .sh) V := by
  have e1 := mkl_eW (toW l) .sh
  rw [ofW_toW _ hw] at e1
  rw [← e1]
  exact rd_rep (fun _ => rfl) (fun _ => ⟨rfl, rfl⟩) h hi
theorem t_rep {J : Nat → Nat → Prop} {w : World} {G : Gh} {l : List Bool} {V : Value} (h : RdV encT w V l) (hi : ∀ p n c, V = .slice (some p) n c → l ≠ [] → ∀ j, J p.block j) : Rep J w G (LV 1 Bo l .sh) V :=
  rd_rep (fun _ => rfl) (fun _ => ⟨rfl, rfl⟩) h hi
set_option maxRecDepth 100000 in
set_option maxHeartbeats 6400000 in
theorem ends_good (u g wt tr : Int) (a : Rq) (hC : CfgP u g wt tr) (hw60 : wt ≤ 60) (oa : RqOk a) (hl : lgV a = false) (noise : List (List Int)) (hnl : noise.length ≤ 200) (hnb : ∀ b ∈ noise, Bytes b) (vw vb vn : Value) (w : World)
    (hq : Rep Any w [] (rqE a .sh .sh) (rqW a vw vb)) (hn : Rep Any w [] (LV 1 nsE noise .sh) vn) (a1 : RdV encW w vw (toW a.words)) (a2 : RdV encT w vb a.bits) :
    Calls Try.prog 3 #[cfgW u g wt tr, rqW a vw vb, vn] w fun e w' => e = .returned (.bool true) ∧ Below w.heap.size w w' := by
  obtain ⟨A0, k0, rfl⟩ := lv_slice hn
  have hlw : (toW a.words).length ≤ 3000 := by have := oa.lw; simpa [toW] using this
  have hlb : a.bits.length ≤ 30000 := oa.lb
  obtain ⟨A1, k1, rfl, _⟩ := a1.open
  obtain ⟨A2, k2, rfl, _⟩ := a2.open
  have hq := Lib.hid hq
  have hn := Lib.hid hn
  have a1 := Lib.hid a1
  have a2 := Lib.hid a2
  have hlg := Lib.hid (fun W h1 h2 => Large_w a (.slice A1 (toW a.words).length k1) (.slice A2 a.bits.length k2) W oa.w h1 h2 hl)
  have hnew := Lib.hid (fun W => New_w W u g wt tr hC)
  have hst := Lib.hid (fun (W : World) (bm : Nat) (v1 v2 : Value) hX r1 r2 hR => Start_w W bm u g wt tr a v1 v2 hX oa.w r1 r2 hR (by have := oa.lw; omega) (by have := oa.lb; omega))
  unfold cfgW at hnew ⊢
  unfold rqW at hlg hst ⊢
  have z1 : ¬ 60 < wt := by omega
  have z2 : ¬ (200 : Int) < (noise.length : Int) := by omega
  go_enter Try.func3, Try.ntmps3
  go_wp2_with fail
  refine (awake08_w _).mono ?_
  rintro e w1 ⟨rfl, hB1⟩
  have hx : BX w1 w.heap.size 23 #[.int .u8 u, .int .i64 g, .int .i64 wt, .int .i64 tr] := ((BX.made rfl).alloc _).below hB1
  have hy : BX w1 (w.heap.size + 1) 28 #[.int .i64 a.code, .int .i64 a.addr, .int .i64 a.cnt, .int .i64 a.to_, .slice A1 (toW a.words).length k1, .slice A2 a.bits.length k2, .int .u16 a.and_, .int .u16 a.or_] := (BX.made (by simp)).below hB1
  have hlt1 := hy.lt
  have hb1 := belowT (belowA (belowA (Below.refl _ w) _) _) hB1
  have x0 := hx.cell 0 (v := .int .u8 u) rfl
  have x1 := hx.cell 1 (v := .int .i64 g) rfl
  have x2 := hx.cell 2 (v := .int .i64 wt) rfl
  have x3 := hx.cell 3 (v := .int .i64 tr) rfl
  clear hB1
  have hx := Lib.hid hx
  have hy := Lib.hid hy
  have hb1 := Lib.hid hb1
  go_wp2_with fail
  refine (hnew.out _).mono ?_
  rintro e w2 ⟨bm, rfl, hB2, hbm, hM⟩
  have hx := Lib.hid (hx.out.below hB2)
  have hy := hy.out.below hB2
  have hb2 := belowT hb1.out hB2
  have y0 := hy.cell 0 (v := .int .i64 a.code) rfl
  have y1 := hy.cell 1 (v := .int .i64 a.addr) rfl
  have y2 := hy.cell 2 (v := .int .i64 a.cnt) rfl
  have y3 := hy.cell 3 (v := .int .i64 a.to_) rfl
  have y4 := hy.cell 4 (v := .slice A1 (toW a.words).length k1) rfl
  have y5 := hy.cell 5 (v := .slice A2 a.bits.length k2) rfl
  have y6 := hy.cell 6 (v := .int .u16 a.and_) rfl
  have y7 := hy.cell 7 (v := .int .u16 a.or_) rfl
  have hy := Lib.hid hy
  have hM := Lib.hid hM
  clear hB2 x0 x1 x2 x3 hb1
  have hb2 := Lib.hid hb2
  go_wp2_with fail
  refine (hlg.out _ (a1.out.below hb2.out) (a2.out.below hb2.out)).mono ?_
  rintro e w3 ⟨rfl, hB3⟩
  have hx := hx.out.below hB3
  have hy := hy.out.below hB3
  have hM := hM.out.below hB3
  have hb3 := belowT hb2.out hB3
  have hbm3 := hM.lt
  clear hB3 y0 y1 y2 y3 y4 y5 y6 y7 hb2
  have x2 := hx.cell 2 (v := .int .i64 wt) rfl
  have y0 := hy.cell 0 (v := .int .i64 a.code) rfl
  have y1 := hy.cell 1 (v := .int .i64 a.addr) rfl
  have y2 := hy.cell 2 (v := .int .i64 a.cnt) rfl
  have y3 := hy.cell 3 (v := .int .i64 a.to_) rfl
  have y4 := hy.cell 4 (v := .slice A1 (toW a.words).length k1) rfl
  have y5 := hy.cell 5 (v := .slice A2 a.bits.length k2) rfl
  have y6 := hy.cell 6 (v := .int .u16 a.and_) rfl
  have y7 := hy.cell 7 (v := .int .u16 a.or_) rfl
  have q4 := ((hy.alloc (.cells #[.int .i64 a.code, .int .i64 a.addr, .int .i64 a.cnt, .int .i64 a.to_, .slice A1 (toW a.words).length k1, .slice A2 a.bits.length k2, .int .u16 a.and_, .int .u16 a.or_] 28)).alloc (.cells #[] 26)).cell 4 (v := .slice A1 (toW a.words).length k1) rfl
  have hylt := hy.lt
  have hx := Lib.hid hx
  have hy := Lib.hid hy
  have hM := Lib.hid hM
  have hb3 := Lib.hid hb3
  go_wp2_with (at_builtin; refine wp_app (enc := encW) (l := []) (m := toW a.words) encW_one rfl (.tmp 57) (.tmp 59) _ rfl _ _ _ Try.underlying24 infoW rfl (w3.heap.size + 1) _ rfl ?a1 _ rfl ?a2 ?a3 (by omega) ?a5 ?a4)
  case a1 =>
    show Own encW 26 _ (w3.heap.size + 1) (.slice (some ⟨w3.heap.size + 1, 0, none⟩) 0 0) []
    exact Own.litg encW (w3.alloc _) 26 (w3.heap.size + 1) (w3.heap.size + 1) (by simp) (by simp) [] _ 0 rfl (by simp) rfl
  case a2 => exact ((a1.out.below hb3.out).alloc _).alloc _
  case a3 => simp; omega
  case a5 => simp
  case a4 =>
    intro v1 w4 ho1 hg1
    have ho1 : Own encW 26 w4 (w3.heap.size + 1) v1 (toW a.words) := ho1
    have hg1 : World.grownBy _ w4 (some (w3.heap.size + 1)) := hg1
    obtain ⟨B1, k3, rfl, _⟩ := ho1.rd.open
    have hr4 : ∀ k, k ≠ w3.heap.size + 1 → (some k : Option Nat) ≠ some (w3.heap.size + 1) := by
      intro k hk h
      injection h with h
      exact hk h
    have hx4 := ((hx.out.alloc _).alloc _).grown hg1 (hr4 _ (by omega))
    have hy4 := ((hy.out.alloc _).alloc _).grown hg1 (hr4 _ (by omega))
    have hM4 := ((hM.out.alloc _).alloc _).grown hg1 (hr4 _ (by omega))
    have hb4 := belowG (belowA (belowA hb3.out _) _) hg1 (by intro k hk; injection hk with hk; omega)
    have hg4 : BX w4 w3.heap.size 28 #[.int .i64 a.code, .int .i64 a.addr, .int .i64 a.cnt, .int .i64 a.to_, .slice A1 (toW a.words).length k1, .slice A2 a.bits.length k2, .int .u16 a.and_, .int .u16 a.or_] := ((BX.made rfl).alloc _).grown hg1 (hr4 _ (by omega))
    have hlt4 := hg4.lt
    have p4 := hg4.cell 4 (v := .slice A1 (toW a.words).length k1) rfl
    have e4 := hg4.frozen 4
    have hg5 := hg4.set 4 (.slice B1 (toW a.words).length k3)
    have hx5 := hx4.other (c := w3.heap.size) (by omega) 4 (.slice B1 (toW a.words).length k3)
    have hy5 := hy4.other (c := w3.heap.size) (by omega) 4 (.slice B1 (toW a.words).length k3)
    have hM5 := hM4.other (c := w3.heap.size) (by omega) 4 (.slice B1 (toW a.words).length k3)
    have hb5 := hb4.setCell (p := ⟨w3.heap.size, 4, none⟩) (by show w.heap.size ≤ w3.heap.size; omega) (.slice B1 (toW a.words).length k3)
    have ho5 := own_other (k := 4) (u := .slice B1 (toW a.words).length k3) ho1 (show w3.heap.size < w3.heap.size + 1 by omega)
    have q5 := (hy5.alloc (.cells #[] 4)).cell 5 (v := .slice A2 a.bits.length k2) rfl
    have hx5 := Lib.hid hx5
    have hy5 := Lib.hid hy5
    have hM5 := Lib.hid hM5
    have hb5 := Lib.hid hb5
    have ho5 := Lib.hid ho5
    have hg5 := Lib.hid hg5
    have hbase1 := ho1.base
    clear hx4 hy4 hM4 hb4 hg4 hr4 hg1 hx hy hM hb3 q4 y0 y1 y2 y3 y4 y5 y6 y7 x2 ho1
    go_wp2_with (at_builtin; refine wp_app (enc := encT) (l := []) (m := a.bits) encT_one rfl (.tmp 62) (.tmp 64) _ rfl _ _ _ Try.underlying25 infoT rfl w4.heap.size _ rfl ?b1 _ rfl ?b2 ?b3 (by omega) ?b5 ?b4)
    case b1 =>
      show Own encT 4 _ w4.heap.size (.slice (some ⟨w4.heap.size, 0, none⟩) 0 0) []
      exact Own.litg encT (w4.setCell ⟨w3.heap.size, 4, none⟩ _) 4 w4.heap.size w4.heap.size (by simp) (by simp) [] _ 0 rfl (by simp) rfl
    case b2 => exact RdV.alloc (a2.out.below hb5.out) _
    case b3 => simp; omega
    case b5 => simp
    case b4 =>
      intro v2 w6 ho2 hg2
      have ho2 : Own encT 4 w6 w4.heap.size v2 a.bits := ho2
      have hg2 : World.grownBy _ w6 (some w4.heap.size) := hg2
      obtain ⟨B2, k4, rfl, _⟩ := ho2.rd.open
      have hr6 : ∀ k, k ≠ w4.heap.size → (some k : Option Nat) ≠ some w4.heap.size := by
        intro k hk h
        injection h with h
        exact hk h
      have hx6 := (hx5.out.alloc _).grown hg2 (hr6 _ (by omega))
      have hy6 := (hy5.out.alloc _).grown hg2 (hr6 _ (by omega))
      have hM6 := (hM5.out.alloc _).grown hg2 (hr6 _ (by have := hM5.out.lt; simp at this; omega))
      have hb6 := belowG (belowA hb5.out _) hg2 (by intro k hk; injection hk with hk; omega)
      have hg6 : BX w6 w3.heap.size 28 #[.int .i64 a.code, .int .i64 a.addr, .int .i64 a.cnt, .int .i64 a.to_, .slice B1 (toW a.words).length k3, .slice A2 a.bits.length k2, .int .u16 a.and_, .int .u16 a.or_] := (hg5.out.alloc _).grown hg2 (hr6 _ (by omega))
      have ho6 := (ho5.out.alloc (.cells #[] 4)).kept hg2 (.inr (by
        intro h
        have := (hbase1 _ h).2
        omega))
      have hlt6 := hg6.lt
      have hs46 : w4.heap.size ≤ w6.heap.size := by
        have := hg2.size
        simp at this
        omega
      have p5 := hg6.cell 5 (v := .slice A2 a.bits.length k2) rfl
      have e5 := hg6.frozen 5
      have hg7 : BX (w6.setCell ⟨w3.heap.size, 5, none⟩ (.slice B2 a.bits.length k4)) w3.heap.size 28 #[.int .i64 a.code, .int .i64 a.addr, .int .i64 a.cnt, .int .i64 a.to_, .slice B1 (toW a.words).length k3, .slice B2 a.bits.length k4, .int .u16 a.and_, .int .u16 a.or_] := hg6.set 5 (.slice B2 a.bits.length k4)
      have hx7 := hx6.other (c := w3.heap.size) (by omega) 5 (.slice B2 a.bits.length k4)
      have hy7 := hy6.other (c := w3.heap.size) (by omega) 5 (.slice B2 a.bits.length k4)
      have hM7 := hM6.other (c := w3.heap.size) (by omega) 5 (.slice B2 a.bits.length k4)
      have hb7 := hb6.setCell (p := ⟨w3.heap.size, 5, none⟩) (by show w.heap.size ≤ w3.heap.size; omega) (.slice B2 a.bits.length k4)
      have ho7 := own_other (k := 5) (u := .slice B2 a.bits.length k4) ho6 (show w3.heap.size < w3.heap.size + 1 by omega)
      have hp7 := own_other (k := 5) (u := .slice B2 a.bits.length k4) ho2 (show w3.heap.size < w4.heap.size by omega)
      have hbase2 := ho2.base
      have y0 := hg7.cell 0 (v := .int .i64 a.code) rfl
      have y1 := hg7.cell 1 (v := .int .i64 a.addr) rfl
      have y2 := hg7.cell 2 (v := .int .i64 a.cnt) rfl
      have y3 := hg7.cell 3 (v := .int .i64 a.to_) rfl
      have y4 := hg7.cell 4 (v := .slice B1 (toW a.words).length k3) rfl
      have y5 := hg7.cell 5 (v := .slice B2 a.bits.length k4) rfl
      have y6 := hg7.cell 6 (v := .int .u16 a.and_) rfl
      have y7 := hg7.cell 7 (v := .int .u16 a.or_) rfl
      have hx7 := Lib.hid hx7
      have hy7 := Lib.hid hy7
      have hM7 := Lib.hid hM7
      have hb7 := Lib.hid hb7
      have ho7 := Lib.hid ho7
      have hp7 := Lib.hid hp7
      have hg7 := Lib.hid hg7
      clear hx6 hy6 hM6 hb6 hg6 ho6 hr6 hg2 hx5 hy5 hM5 hb5 ho5 hg5 q5 ho2 p4 e4
      go_wp2_with fail
      trace_state
      by_cases hR : RightP a
      · refine (hst.out _ bm _ _ hM7.out ho7.out.rd hp7.out.rd hR).mono ?_
        rintro e w8 ⟨rfl, v1, v2, hM8, hO1, hO2, hG8⟩
        have hne1 : ∀ j, j ≤ w3.heap.size → (some j : Option Nat) ≠ (Value.slice B1 (toW a.words).length k3).ownBlock := fun j hj h => by
          have := (hbase1 j h.symm).1
          omega
        have hne2 : ∀ j, j < w4.heap.size → (some j : Option Nat) ≠ (Value.slice B2 a.bits.length k4).ownBlock := fun j hj h => by
          have := (hbase2 j h.symm).1
          omega
        have hsz7 : w6.heap.size = (w6.setCell ⟨w3.heap.size, 5, none⟩ (.slice B2 a.bits.length k4)).heap.size := by simp
        have hr8 : ∀ k, k ≠ bm → (some k : Option Nat) ≠ some bm := by
          intro k hk h
          injection h with h
          exact hk h
        have hx8 := Lib.hid (hx7.out.grown hG8 (hr8 _ (by omega)))
        have hy8 := Lib.hid (hy7.out.grown hG8 (hr8 _ (by omega)))
        have hg8 := hg7.out.grown hG8 (hr8 _ (by omega))
        have hb8 := Lib.hid (belowG hb7.out hG8 (by intro k hk; injection hk with hk; omega))
        have ho8 := Lib.hid (ho7.out.kept hG8 (.inr (fun h => hne1 bm (by omega) h.symm)))
        have hp8 := Lib.hid (hp7.out.kept hG8 (.inr (fun h => hne2 bm (by omega) h.symm)))
        have hM8 := Lib.hid hM8
        have hO1 := Lib.hid hO1
        have hO2 := Lib.hid hO2
        have hg8 := Lib.hid hg8
        have hs8 : w6.heap.size ≤ w8.heap.size := by
          have := hG8.size
          omega
        rw [← hsz7] at hO1 hO2
        clear hx7 hy7 hM7 hb7 ho7 hp7 hg7 hG8 hst y0 y1 y2 y3 y4 y5 y6 y7 hsz7 hr8 p5 e5
        go_wp2
        clear z1 z2 hnew hlg
        go_loopw [11] (fun iv wr => ∃ (k : Nat) (l : List UInt16), iv = .int .i64 k ∧ k ≤ (toW a.words).length ∧ l.length = (toW a.words).length ∧ Own encW 26 wr (w3.heap.size + 1) (.slice B1 (toW a.words).length k3) l ∧ w8.grownBy wr (Value.slice B1 (toW a.words).length k3).ownBlock) (fun iv _ => (toW a.words).length - (intOf iv).toNat)
        case atStart => exact ⟨0, toW a.words, rfl, Nat.zero_le _, rfl, ho8.out, grown_same _ _⟩
        case round =>
          clear ho8
          obtain ⟨k, l, rfl, hk, hll, ho, hG⟩ := hrel
          have hg9 := hg8.out.grown hG (hne1 _ (Nat.le_refl _))
          have y4 := hg9.cell 4 (v := .slice B1 (toW a.words).length k3) rfl
          by_cases hlt : k < (toW a.words).length
          · obtain ⟨gw, cap, e, hgw1, hgw2⟩ := ho.block (by omega)
            injection e with e1 e2 e3
            subst e1
            subst e3
            clear e2
            have hkl : k < l.length := by omega
            obtain ⟨hca, hfa⟩ := ho.at k hkl
            have hset := ho.set k (l[k] + 1)
            have hadd : IntKind.u16.wrap (((l[k]).toNat : Int) + 1) = ((l[k] + 1).toNat : Int) := by
              have := (l[k]).toNat_lt
              rw [UInt16.toNat_add]
              simp [IntKind.wrap, IntKind.bits, IntKind.signed]
            simp only [encW] at hca hset
            have hsO := Lib.hid hset.1
            have hsG := Lib.hid (grown_drew (grown_trans hG hset.2))
            generalize ((l[k] + 1).toNat : Int) = z at *
            generalize ((l[k]).toNat : Int) = x at *
            have y4d : wr.drew.cell? ⟨w3.heap.size, 4, none⟩ = some (.slice (some ⟨gw, 0, none⟩) (toW a.words).length k3) := y4
            have hcd : wr.drew.cell? ⟨gw, k, none⟩ = some (.int .u16 x) := hca
            have hfd : wr.drew.frozen? ⟨gw, k, none⟩ = false := hfa
            have hG := Lib.hid hG
            have hll := Lib.hid hll
            have ho := Lib.hid ho
            have hg9 := Lib.hid hg9
            clear hset hx8 hy8 hb8 hp8 hM8 hO1 hO2
            go_wp2
            go_region
            go_wp2
            go_roundw
            case rel => exact ⟨k + 1, l.set k (l[k] + 1), by go_num, by omega, by simp [hll.out], hsO.out.drew, hsG.out⟩
            case measure => simp [intOf]; omega
          · obtain rfl : k = (toW a.words).length := by omega
            have hx9 := Lib.hid (hx8.out.grown hG (hne1 _ (by omega)))
            have hy9 := Lib.hid (hy8.out.grown hG (hne1 _ (by omega)))
            have hM9 := Lib.hid (hM8.out.grown hG (hne1 _ (by omega)))
            have hb9 := Lib.hid (belowG hb8.out hG (fun j h => by have := (hbase1 j h).1; omega))
            have hp9 := Lib.hid (hp8.out.kept hG (by
              rcases Option.eq_none_or_eq_some (Value.slice B2 a.bits.length k4).ownBlock with h | ⟨j, h⟩
              · exact .inl h
              · refine .inr fun h2 => ?_
                rw [h2] at h
                have := (hbase1 j h).2
                have := (hbase2 j (h2.trans h)).1
                omega))
            have hO1 := Lib.hid (hO1.out.kept hG (by
              rcases Option.eq_none_or_eq_some v1.ownBlock with h | ⟨j, h⟩
              · exact .inl h
              · refine .inr fun h2 => ?_
                have := (hO1.out.base j h).1
                rw [h2] at h
                have := (hbase1 j h).2
                omega))
            have hO2 := Lib.hid (hO2.out.kept hG (by
              rcases Option.eq_none_or_eq_some v2.ownBlock with h | ⟨j, h⟩
              · exact .inl h
              · refine .inr fun h2 => ?_
                have := (hO2.out.base j h).1
                rw [h2] at h
                have := (hbase1 j h).2
                omega))
            have y5 := hg9.cell 5 (v := .slice B2 a.bits.length k4) rfl
            have hs9 := hG.size
            have hg9 := Lib.hid hg9
            clear hx8 hy8 hM8 hb8 hp8 hg8 hG ho hll
            go_wp2
            clear y4
            go_loopw [12] (fun iv wr2 => ∃ (k : Nat) (l : List Bool), iv = .int .i64 k ∧ k ≤ a.bits.length ∧ l.length = a.bits.length ∧ Own encT 4 wr2 w4.heap.size (.slice B2 a.bits.length k4) l ∧ wr.grownBy wr2 (Value.slice B2 a.bits.length k4).ownBlock) (fun iv _ => a.bits.length - (intOf iv).toNat)
            case atStart => exact ⟨0, a.bits, rfl, Nat.zero_le _, rfl, hp9.out, grown_same _ _⟩
            case round =>
              clear hp9 y5
              obtain ⟨k, l, rfl, hk, hll, ho, hG⟩ := hrel
              have hgA := hg9.out.grown hG (hne2 _ (by omega))
              have y5 := hgA.cell 5 (v := .slice B2 a.bits.length k4) rfl
              by_cases hlt : k < a.bits.length
              · obtain ⟨gw, cap, e, hgw1, hgw2⟩ := ho.block (by omega)
                injection e with e1 e2 e3
                subst e1
                subst e3
                clear e2
                have hkl : k < l.length := by omega
                obtain ⟨hca, hfa⟩ := ho.at k hkl
                have hset := ho.set k (!l[k])
                simp only [encT] at hca hset
                obtain ⟨x, hxk⟩ : ∃ x, x = l[k] := ⟨_, rfl⟩
                rw [← hxk] at hca hset
                clear hxk
                have hsO := Lib.hid hset.1
                have hsG := Lib.hid (grown_drew (grown_trans hG hset.2))
                have y5d : wr.drew.cell? ⟨w3.heap.size, 5, none⟩ = some (.slice (some ⟨gw, 0, none⟩) a.bits.length k4) := y5
                have hcd : wr.drew.cell? ⟨gw, k, none⟩ = some (.bool x) := hca
                have hfd : wr.drew.frozen? ⟨gw, k, none⟩ = false := hfa
                have hG := Lib.hid hG
                have hll := Lib.hid hll
                have ho := Lib.hid ho
                have hgA := Lib.hid hgA
                clear hset hx9 hy9 hb9 hM9 hO1 hO2
                go_wp2
                go_region
                go_wp2
                go_roundw
                case rel => exact ⟨k + 1, l.set k (!x), by go_num, by omega, by simp [hll.out], hsO.out.drew, hsG.out⟩
                case measure => simp [intOf]; omega
              · obtain rfl : k = a.bits.length := by omega
                have hx10 := Lib.hid (hx9.out.grown hG (hne2 _ (by omega)))
                have hy10 := Lib.hid (hy9.out.grown hG (hne2 _ (by omega)))
                have hM10 := Lib.hid (hM9.out.grown hG (hne2 _ (by omega)))
                have hb10 := Lib.hid (belowG hb9.out hG (fun j h => by have := (hbase2 j h).1; omega))
                have hO1 := Lib.hid (hO1.out.kept hG (by
                  rcases Option.eq_none_or_eq_some v1.ownBlock with h | ⟨j, h⟩
                  · exact .inl h
                  · refine .inr fun h2 => ?_
                    have := (hO1.out.base j h).1
                    rw [h2] at h
                    have := (hbase2 j h).2
                    omega))
                have hO2 := Lib.hid (hO2.out.kept hG (by
                  rcases Option.eq_none_or_eq_some v2.ownBlock with h | ⟨j, h⟩
                  · exact .inl h
                  · refine .inr fun h2 => ?_
                    have := (hO2.out.base j h).1
                    rw [h2] at h
                    have := (hbase2 j h).2
                    omega))
                clear hx9 hy9 hM9 hb9 hg9 hG ho hll hgA hs9
                go_wp2
                clear y5
                go_loopw [13] (fun iv wr3 => ∃ k : Nat, iv = .int .i64 k ∧ k ≤ noise.length ∧ (∀ j (hj : j < noise.length), j < k → (noise[j]).length ≤ 400) ∧ wr3 = wr) (fun iv _ => noise.length - (intOf iv).toNat)
                case atStart => exact ⟨0, rfl, Nat.zero_le _, fun j _ hj => absurd hj (Nat.not_lt_zero _), rfl⟩
                case round =>
                  obtain ⟨k, rfl, hk, hkn, e⟩ := hrel
                  subst e
                  by_cases hlt : k < noise.length
                  · obtain ⟨nb, no, A', c', rfl, hnc⟩ := noise_at (rep_any (J := Any) (G := []) hn.out (fun b hb => hb10.out.block b hb) (fun _ _ _ => trivial)) k hlt
                    have hkn := Lib.hid hkn
                    by_cases hbig : 400 < (noise[k]).length
                    · clear hx10 hy10 hM10 hO1 hO2
                      go_wp2
                      go_ret
                      exact ⟨rfl, hb10.out⟩
                    · clear hx10 hy10 hM10 hO1 hO2 hb10
                      go_wp2
                      go_roundw
                      case rel =>
                        refine ⟨k + 1, by go_num, by omega, fun j hj hj2 => ?_, by first | trivial | rfl⟩
                        rcases (by omega : j < k ∨ j = k) with h | rfl
                        · exact hkn.out j hj h
                        · omega
                      case measure => simp [intOf]; omega
                  · obtain rfl : k = noise.length := by omega
                    have hnb2 := Lib.hid (fun b hb => (⟨hnb b hb, by
                      obtain ⟨j, hj, rfl⟩ := List.mem_iff_getElem.1 hb
                      exact hkn j hj hj⟩ : Bytes b ∧ b.length ≤ 400))
                    clear hkn hnb
                    have y0 := hy10.out.cell 0 (v := .int .i64 a.code) rfl
                    have y1 := hy10.out.cell 1 (v := .int .i64 a.addr) rfl
                    have y2 := hy10.out.cell 2 (v := .int .i64 a.cnt) rfl
                    have y3 := hy10.out.cell 3 (v := .int .i64 a.to_) rfl
                    have y4 := hy10.out.cell 4 (v := .slice A1 (toW a.words).length k1) rfl
                    have y5 := hy10.out.cell 5 (v := .slice A2 a.bits.length k2) rfl
                    have y6 := hy10.out.cell 6 (v := .int .u16 a.and_) rfl
                    have y7 := hy10.out.cell 7 (v := .int .u16 a.or_) rfl
                    have hbmlt := hM10.out.lt
                    have hylt10 := hy10.out.lt
                    have hsw := hb10.out.size
                    have jI : ∀ (b j : Nat), (b ≠ w.heap.size ∧ b ≠ w.heap.size + 1 ∧ b ≠ bm) → ImmB (fun b _ => b ≠ w.heap.size ∧ b ≠ w.heap.size + 1 ∧ b ≠ bm) [] b j := fun b j h => ⟨h, fun k hk => by simp at hk, fun k s c n hk => by simp at hk⟩
                    have q1 : Rep (ImmB (fun b _ => b ≠ w.heap.size ∧ b ≠ w.heap.size + 1 ∧ b ≠ bm) []) wr [] (rqE a .sh .sh) (rqW a (.slice A1 (toW a.words).length k1) (.slice A2 a.bits.length k2)) := rep_any hq.out (fun b hb => hb10.out.block b hb) (fun b j hb => jI b j ⟨by omega, by omega, by omega⟩)
                    have hask := Lib.hid (askBytes_w (fun b _ => b ≠ w.heap.size ∧ b ≠ w.heap.size + 1 ∧ b ≠ bm) a oa hR _ wr (fun b j hb => ⟨by omega, by omega, by omega⟩) q1)
                    unfold rqW at hask
                    clear q1
                    go_wp2_with fail
                    refine hask.out.mono ?_
                    rintro e w11 ⟨vp, rfl, hp, hB11⟩
                    obtain ⟨Ap, cp, rfl⟩ := lv_slice hp
                    clear y0 y1 y2 y3 y4 y5 y6 y7 hask
                    have hx11 := hx10.out.below hB11
                    have hy11 := Lib.hid (hy10.out.below hB11)
                    have hM11 := Lib.hid (hM10.out.below hB11)
                    have hb11 := Lib.hid (belowT hb10.out hB11)
                    have hO1 := Lib.hid (hO1.out.below hB11)
                    have hO2 := Lib.hid (hO2.out.below hB11)
                    have x0 := hx11.cell 0 (v := .int .u8 u) rfl
                    have hx11 := Lib.hid hx11
                    have hs11 := hB11.size
                    obtain ⟨tl1, tl2⟩ := text_few a hR.1 oa
                    have hcu := hC.1
                    have hrtu := Lib.hid (rtuBytes_w (fun b _ => b ≠ w.heap.size ∧ b ≠ w.heap.size + 1 ∧ b ≠ bm) u (textV a) (.slice Ap (textV a).length cp) w11 ⟨by omega, by omega⟩ (text_bytes a) tl1 tl2 (fun b j hb => ⟨by omega, by omega, by omega⟩) (rep_to hp (fun _ _ => rfl) fun b j _ hj => jI b j hj))
                    clear hx10 hy10 hM10 hb10 hB11 hp
                    go_wp2_with fail
                    refine hrtu.out.mono ?_
                    rintro e w12 ⟨vf, rfl, hf, hB12⟩
                    clear x0 hrtu
                    have hx12 := Lib.hid (hx11.out.below hB12)
                    have hy12 := Lib.hid (hy11.out.below hB12)
                    have hM12 := Lib.hid (hM11.out.below hB12)
                    have hb12 := Lib.hid (belowT hb11.out hB12)
                    have hO1 := Lib.hid (hO1.out.below hB12)
                    have hO2 := Lib.hid (hO2.out.below hB12)
                    have hs12 := hB12.size
                    have hf := Lib.hid hf
                    have hs6 : bm < w6.heap.size := by omega
                    clear hx11 hy11 hM11 hb11 hB12
                    have key : ∀ (c : Code) (act : Act) (Q : Exit → Act → World → Prop), c = Code.loop (loopAt (bodyOf Try.f3) 3) → act.defers = [] → act.tmps.size = 219 → act.tmps[2]? = some (.slice A0 noise.length k0) → act.tmps[3]? = some (.pointer (some ⟨w.heap.size, 0, none⟩)) → act.tmps[4]? = some (.pointer (some ⟨w.heap.size + 1, 0, none⟩)) → act.tmps[7]? = some (.bool true) → act.tmps[8]? = some (.pointer (some ⟨bm, 0, none⟩)) → act.tmps[16]? = some vf → act.tmps[18]? = some (.int .i64 0) → act.tmps[19]? = some (.int .i64 0) →
                        (∀ a' w', a'.tmps[6]? = some (.bool true) → a'.defers = [] → Below w.heap.size w w' → Q .ret a' w') → c.wp Try.prog Q act w12 := by
                      intro c act Q hc hd hs t2 t3 t4 t7 t8 t16 t18 t19 hQ
                      subst hc
                      have hM0 := hM12.out.lt
                      exact ends_wp u g wt tr a hC hw60 hR oa noise hnl hnb2.out w12 w.heap.size (w.heap.size + 1) bm (by omega) (by omega) (by omega) v1 v2 (.slice A1 (toW a.words).length k1) (.slice A2 a.bits.length k2) (.slice A0 noise.length k0) vf hx12.out hy12.out hM12.out
                          (rep_any (w_rep oa.w a1.out (fun _ _ _ _ _ _ => trivial)) (fun b hb => hb12.out.block b hb) (fun b j hb => ⟨by omega, by omega, by omega⟩))
                          (rep_any (t_rep a2.out (fun _ _ _ _ _ _ => trivial)) (fun b hb => hb12.out.block b hb) (fun b j hb => ⟨by omega, by omega, by omega⟩))
                          (w_rep oa.w hO1.out.rd (fun p n c e _ j => by have := (hO1.out.base p.block (by rw [e]; rfl)).1; exact ⟨by omega, by omega, by omega⟩))
                          (t_rep hO2.out.rd (fun p n c e _ j => by have := (hO2.out.base p.block (by rw [e]; rfl)).1; exact ⟨by omega, by omega, by omega⟩))
                          (rep_any hn.out (fun b hb => hb12.out.block b hb) (fun b j hb => ⟨by omega, by omega, by omega⟩)) hf.out act hd hs t2 t3 t4 t7 t8 t16 t18 t19 Q
                          (fun a' w' h6 hd' os tp ou sz blk => hQ a' w' h6 hd' ⟨os.trans hb12.out.os, tp.trans hb12.out.tape, ou.trans hb12.out.output, Nat.le_trans hb12.out.size sz, fun b hb => (blk b (Nat.lt_of_lt_of_le hb hb12.out.size) (by omega) (by omega) (by omega)).trans (hb12.out.block b hb)⟩)
                    go_wp2_with fail
                    refine key _ _ _ (by kernel_rfl) rfl rfl rfl rfl rfl rfl rfl rfl rfl rfl ?_
                    intro a' w' h6 hd6 hB
                    simp only [Exit.inBlock, Exit.then]
                    refine bodyPost_ret (results_tmp rfl _ _ _) hd6 ?_
                    have e6 : a'.tmps.getD 6 undef = .bool true := by
                      rw [Array.getD_eq_getD_getElem?, h6]
                      rfl
                    exact ⟨congrArg Ending.returned e6, hB⟩
      · refine (Start_no_w _ bm a _ _ _ hM7.out rfl oa.w ho7.out.rd hp7.out.rd hR).mono ?_
        rintro e w8 ⟨rfl, hB8⟩
        have hb8 := Lib.hid (belowT hb7.out hB8)
        go_wp2
        go_ret
        exact ⟨rfl, hb8.out⟩
end Go.Proofs.Ytcpgmbpndpcmdaa
namespace Go.Proofs.Ytcpgmbpndpcmdaa
open Go
set_option linter.unusedSimpArgs false
set_option linter.unusedVariables false
set_option maxRecDepth 100000
set_option maxHeartbeats 1000000
theorem bnilE (t : Operand) : binD Try.prog .eql 31 t (.const (.pointer none)) (.flat (.pointer none)) (.flat (.pointer none)) = some (Bo true) := by kernel_rfl
theorem ends_no (n : Nat) (up : cP2 n 5 false [] = some (Bo true)) (hn : 39000 ≤ n) (u g wt tr : Int) (a : Rq) (ha : RqTy a) (noise : List (List Int))
    (hno : ¬ CfgP u g wt tr ∨ lgV a = true ∨ 60 < wt ∨ 200 < noise.length) :
    ∃ H', s_triunelaw08_MasterEnds n [] 0 (cfgE u g wt tr) (rqE a .sh .sh) (LV 1 nsE noise .sh) = some (Bo true, H') := by
  have l1 := cP_up (ref06_Large_c n a .sh .sh (by omega))
  by_cases h0 : CfgP u g wt tr
  · have hN := mNew_yes n (by omega) u g wt tr [cfgB u g wt tr, .cells 28 (rqE a .sh .sh).cells] 0 (by simp) h0
    have bp := fun o => binD_ptr_nil (t := 31) Try.underlying31 o (.const (.pointer none)) 3 0
    cases h1 : lgV a with
    | true =>
      rw [h1] at l1
      unfold rqE cfgE cfgB at *
      simp only [cells_agg] at hN
      exact ⟨_, by unfold s_triunelaw08_MasterEnds; simp -implicitDefEqProofs (disch := first | omega | (simp only [List.length_set, List.length_append, List.length_cons, List.length_nil, List.length_take, List.length_drop, List.length_map]; omega) | simp) [wrap_i64, wrap_u16_id, wrap_u8_id, tdiv_pos, tmod_pos, -getElem?_pos, -getElem?_neg, -List.length_eq_zero_iff, -List.getElem_cons_drop, up, l1, hN, bp]; rfl⟩
    | false =>
      rw [h1] at l1
      by_cases h2 : 60 < wt
      · unfold rqE cfgE cfgB at *
        simp only [cells_agg] at hN
        exact ⟨_, by unfold s_triunelaw08_MasterEnds; simp -implicitDefEqProofs (disch := first | omega | (simp only [List.length_set, List.length_append, List.length_cons, List.length_nil, List.length_take, List.length_drop, List.length_map]; omega) | simp) [wrap_i64, wrap_u16_id, wrap_u8_id, tdiv_pos, tmod_pos, -getElem?_pos, -getElem?_neg, -List.length_eq_zero_iff, -List.getElem_cons_drop, up, l1, hN, bp, h2]; rfl⟩
      by_cases h3 : 200 < noise.length
      · unfold rqE cfgE cfgB at *
        simp only [cells_agg] at hN
        exact ⟨_, by unfold s_triunelaw08_MasterEnds; simp -implicitDefEqProofs (disch := first | omega | (simp only [List.length_set, List.length_append, List.length_cons, List.length_nil, List.length_take, List.length_drop, List.length_map]; omega) | simp) [wrap_i64, wrap_u16_id, wrap_u8_id, tdiv_pos, tmod_pos, -getElem?_pos, -getElem?_neg, -List.length_eq_zero_iff, -List.getElem_cons_drop, up, l1, hN, bp, h2, h3]; rfl⟩
      rcases hno with h | h | h | h
      · exact absurd h0 h
      · rw [h1] at h; cases h
      · exact absurd h h2
      · exact absurd h h3
  · have hN := mNew_no n (by omega) u g wt tr [cfgB u g wt tr, .cells 28 (rqE a .sh .sh).cells] 0 (by simp) h0
    have e1 := mRight_c n (by omega) u g wt tr
    rw [decide_eq_false h0] at e1
    unfold rqE cfgE cfgB at *
    simp only [cells_agg] at hN
    exact ⟨_, by unfold s_triunelaw08_MasterEnds; simp -implicitDefEqProofs (disch := first | omega | (simp only [List.length_set, List.length_append, List.length_cons, List.length_nil, List.length_take, List.length_drop, List.length_map]; omega) | simp) [wrap_i64, wrap_u16_id, wrap_u8_id, tdiv_pos, tmod_pos, -getElem?_pos, -getElem?_neg, -List.length_eq_zero_iff, -List.getElem_cons_drop, up, hN, bnilE, e1]; rfl⟩
theorem shp_noise {e : List DV} (h : Shp Try.prog 8 29 e) : ∃ l : List (List Int), elOf (isAgT Try.prog 29) e = LV 1 nsE l .sh ∧ ∀ b ∈ l, Bytes b := by
  obtain ⟨ls, rfl, hl, hb⟩ := shp_slice (e := 39) nsE (fun l => Bytes l) (sz := 1) Try.underlying29 (by kernel_rfl) (fun x hx => by
    obtain ⟨l, rfl, _, hl⟩ := shp_ints (k := .u8) Try.underlying39 Try.underlying5 (by kernel_rfl) hx
    exact ⟨l, by kernel_rfl, fun a ha => wf_u8 (hl a ha)⟩) h
  exact ⟨ls, by kernel_rfl, hb⟩
end Go.Proofs.Ytcpgmbpndpcmdaa
namespace Go.Proofs.Ytcpgmbpndpcmdaa
open Go Go.RowKit
set_option linter.unusedSimpArgs false
set_option linter.unusedVariables false
theorem rq_val {w : World} {a : Rq} (oa : RqOk a) {V : Value} (h : Rep Any w [] (rqE a .sh .sh) V) : ∃ vw vb, V = rqW a vw vb ∧ RdV encW w vw (toW a.words) ∧ RdV encT w vb a.bits := by
  obtain ⟨s1, e2, _⟩ := LV_list 1 (I .u16) a.words .sh
  obtain ⟨s2, e3, _⟩ := LV_list 1 Bo a.bits .sh
  have hd : dRq (rqE a .sh .sh) = some a := by
    unfold rqE
    rw [e2, e3]
    unfold dRq
    simp only
    rw [mapO_dW _ oa.w, mapO_dT, Option.bind_some, Option.map_some, ofW_toW _ oa.w]
  obtain ⟨vw, vb, rfl, h1, h2, _⟩ := dRq_rep hd h
  exact ⟨vw, vb, rfl, h1, h2⟩
theorem cfg_val {w : World} {u g wt tr : Int} {V : Value} (h : Rep Any w [] (cfgE u g wt tr) V) : V = cfgW u g wt tr := by
  unfold cfgE at h
  simp only [Rep, RepL, I] at h
  obtain ⟨vs, rfl, x1, r1, e1, rfl, x2, r2, rfl, rfl, x3, r3, rfl, rfl, x4, r4, rfl, rfl, rfl⟩ := h
  unfold cfgW
  congr 1
  apply Array.ext'
  simpa using e1
theorem MasterEnds_all (e0 e1 e2 : List DV) (h0 : Shp Try.prog 8 23 e0) (h1 : Shp Try.prog 8 28 e1) (h2 : Shp Try.prog 8 29 e2) {w : World} {vs : Array Value}
    (hr : RepL Any w [] [elOf (isAgT Try.prog 23) e0, elOf (isAgT Try.prog 28) e1, elOf (isAgT Try.prog 29) e2] vs.toList) :
    Calls Try.prog 3 vs w fun e w' => e = .returned (.bool true) ∧ Below w.heap.size w w' := by
  obtain ⟨u, g, wt, tr, r0, _⟩ := shp_cfg (d := 5) h0
  obtain ⟨a, r1, a1⟩ := shp_rq (d := 5) h1
  obtain ⟨noise, r2, hb⟩ := shp_noise h2
  rw [r0, r1, r2] at hr
  by_cases hno : ¬ CfgP u g wt tr ∨ lgV a = true ∨ 60 < wt ∨ 200 < noise.length
  · obtain ⟨H', h⟩ := ends_no 39999 (awake08 39998 rfl) (by omega) u g wt tr a a1 noise hno
    exact law_call2 ((s_triunelaw08_MasterEnds_eq 39999 [] 0 _ _ _).trans h) hr
  · simp only [not_or, Classical.not_not] at hno
    obtain ⟨n1, n2, n3, n4⟩ := hno
    have hl : lgV a = false := by simpa using n2
    have oa := a1.ok hl
    simp only [RepL] at hr
    obtain ⟨v0, q0, e0, hv0, v1, q1, rfl, hv1, v2, q2, rfl, hv2, rfl⟩ := hr
    obtain rfl : vs = #[v0, v1, v2] := by cases vs; simp_all
    obtain rfl := cfg_val hv0
    obtain ⟨vw, vb, rfl, w1, w2⟩ := rq_val oa hv1
    exact ends_good u g wt tr a n1 (by omega) oa hl noise (by omega) hb vw vb v2 w hv1 hv2 w1 w2
end Go.Proofs.Ytcpgmbpndpcmdaa
