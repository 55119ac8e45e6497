/- Deep values: each operation's step is what the machine does (fourth part: parts of lists, lengths, append, copy). -/
import Derived.Test.YtbhnkdnfmlnajaaPs
namespace Go.Proofs.Ytbhnkdnfmlnajaa
open Go Go.RowKit

variable {P : Program} {B : Nat → Nat → Prop} {G : Gh} {w : World} {H Hr : Heap} {o : Oper} {a : Act} {slots : List DV} {d : DV} {e : Eff}

theorem op_sliceSl {t : TypeId} {x : Operand} {lo hi mx : Option Operand} {l' h' m' : Option Int} {et : TypeId} {ag : Bool} {sz : Nat} (ho : o.op = .slice t x lo hi mx) (hu : P.underlying t = some (.slice et)) (ht : aggSz P et = some (ag, sz))
    (hlo : optD (lo.map (evalD slots)) = some l') (hhi : optD (hi.map (evalD slots)) = some h') (hmx : optD (mx.map (evalD slots)) = some m')
    (h : qv (sliceSl sz (evalD slots x) l' h' m') = some (d, e)) (hH : HR B G w Hr) (hs : SR (ImmB B G) w G slots a) : OpOk P B G w Hr o a d e := by
  obtain ⟨hp, rfl⟩ := qv_some h
  have hx := hs.eval x
  obtain ⟨ie, hie, hsz, _⟩ := aggSz_some ht
  unfold sliceSl at hp
  split at hp
  · rename_i s xs tg hk
    split at hp
    · rename_i hts
      unfold sliceL at hp
      split at hp
      · rename_i l k m hb
        cases hp
        rw [hk] at hx
        obtain ⟨A, c, hx, h1, h2, hE, hT⟩ := repX_val hx
        obtain ⟨hrun, b1, b2, b3, b4, b5, b6⟩ := bounds_run (P := P) (w := w) (isSl := true) hlo hhi hmx hb hs h1 h1
        obtain ⟨M, hM⟩ : ∃ M, (if mx.isSome = true then m else c) = M := ⟨_, rfl⟩
        rw [hM] at hrun
        have hMk : k ≤ M := by rw [← hM]; split <;> omega
        have hlen : ((xs.take k).drop l).length = k - l := by simp; omega
        refine OpOk.still hH (V := .slice (if M = l then A else A.map (·.add (l * ie.size))) (k - l) (M - l)) ?_ ?_ rfl
        · simp [execOp, ho, hx, Instr.sliceAt, run_underlying hu, Instr.slice, hrun, size_run hie]
        · refine rep_mkl (by intro j; split <;> (try split) <;> simp) ?_
          rw [← hlen]
          refine repX_mk (by omega) (by omega) ?_ ?_
          · by_cases hn : (xs.take k).drop l = []
            · exact .inl hn
            · right
              have hkl : l < k := by
                rcases Nat.lt_or_ge l k with h' | h'
                · exact h'
                · exact absurd (List.eq_nil_of_length_eq_zero (by omega)) hn
              have hne : xs ≠ [] := fun e => by subst e; simp at b2; omega
              obtain ⟨b, o', rfl, hE'⟩ := hE.resolve_left hne
              have hss : s = sz := by
                cases xs with
                | nil => exact absurd rfl hne
                | cons x xs => simpa using hts
              refine ⟨b, o' + l * sz, ?_, ?_⟩
              · rw [if_neg (by omega)]
                simp [addr_at, hsz]
              · rw [← hss]; exact hE'.part l k
          · rw [hlen]
            by_cases hc : m'.isSome = true ∧ m = k
            · rw [if_pos hc]
              have hm : mx.isSome = true := b5.trans hc.1
              rw [if_pos hm] at hM
              simp only [TagOk]
              omega
            · rw [if_neg hc]
              by_cases hc2 : m'.isNone = true ∧ k = xs.length ∧ tg = Tag.ti
              · rw [if_pos hc2]
                obtain ⟨c1, c2, rfl⟩ := hc2
                have hm : ¬ mx.isSome = true := by rw [b5]; cases m' <;> simp_all
                rw [if_neg hm] at hM
                simp only [TagOk] at hT ⊢
                omega
              · rw [if_neg hc2]
                trivial
      · cases hp
    · cases hp
  · rename_i ag' s k' off n c hk
    split at hp
    · cases hp
    · rename_i hss
      split at hp
      · rename_i l k m hb
        cases hp
        rw [hk] at hx
        simp only [Rep] at hx
        obtain ⟨b, hG, hx⟩ := hx
        have hnc : n ≤ c := by omega
        have hss' : s = sz := by omega
        obtain ⟨hrun, b1, b2, b3, b4, b5, b6⟩ := bounds_run (P := P) (w := w) (isSl := true) hlo hhi hmx hb hs (Nat.le_refl c) hnc
        have hM : (if mx.isSome = true then m else c) = m := by
          split
          · rfl
          · rename_i hn
            exact (b6 (by rw [b5] at hn; cases m' <;> simp_all)).symm
        rw [hM] at hrun
        refine OpOk.still hH (V := .slice (some ⟨b, if m = l then off else off + l * s, none⟩) (k - l) (m - l)) ?_ (by simp only [Rep]; exact ⟨b, hG, rfl⟩) rfl
        simp only [execOp, ho, hx, Instr.sliceAt, run_underlying hu, Instr.slice, hrun, size_run hie, Sem.run_bind, Result.andThen_ok, Sem.run_pure, hss', hsz]
        split <;> simp [addr_at]
      · cases hp
  · cases hp
theorem op_sliceAr {t : TypeId} {x : Operand} {lo hi mx : Option Operand} {l' h' m' : Option Int} {n : Nat} {et : TypeId} {ag : Bool} {sz : Nat} (ho : o.op = .slice t x lo hi mx) (hu : P.underlying t = some (.array n et)) (ht : aggSz P et = some (ag, sz))
    (hlo : optD (lo.map (evalD slots)) = some l') (hhi : optD (hi.map (evalD slots)) = some h') (hmx : optD (mx.map (evalD slots)) = some m')
    (h : qv (sliceAr ag n sz (evalD slots x) l' h' m') = some (d, e)) (hH : HR B G w Hr) (hs : SR (ImmB B G) w G slots a) : OpOk P B G w Hr o a d e := by
  obtain ⟨hp, rfl⟩ := qv_some h
  have hx := hs.eval x
  obtain ⟨ie, hie, hsz, _⟩ := aggSz_some ht
  unfold sliceAr at hp
  split at hp
  · rename_i k' off hk
    split at hp
    · rename_i l k m hb
      cases hp
      rw [hk] at hx
      simp only [Rep] at hx
      obtain ⟨b, hG, hx⟩ := hx
      obtain ⟨hrun, b1, b2, b3, b4, b5, b6⟩ := bounds_run (P := P) (w := w) (isSl := false) hlo hhi hmx hb hs (Nat.le_refl n) (Nat.le_refl n)
      have hM : (if mx.isSome = true then m else n) = m := by
        split
        · rfl
        · rename_i hn
          exact (b6 (by rw [b5] at hn; cases m' <;> simp_all)).symm
      rw [hM] at hrun
      refine OpOk.still hH (V := .slice (some ⟨b, if m = l then off else off + l * sz, none⟩) (k - l) (m - l)) ?_ (by simp only [Rep]; exact ⟨b, hG, rfl⟩) rfl
      simp only [execOp, ho, hx, Instr.sliceAt, run_underlying hu, Instr.sureAddr, hrun, size_run hie, Sem.run_bind, Result.andThen_ok, Sem.run_pure, hsz]
      split <;> simp [addr_at]
    · cases hp
  · cases hp
/-- a call of a builtin -/
theorem built_run {c : Call} {b : Builtin} (ho : o.op = .call c) (hc : c.callee = .builtin b) : (execOp a.eval o).run P w = (builtin b c.argTypes o.type (c.args.map fun | .const _ => true | _ => false) (c.args.map a.eval)).run P w := by
  simp [execOp, ho, resolve, hc, invoke]
  rfl
theorem args_eq {l : Array Operand} {xs : List Operand} (h : l.toList = xs) : l.map a.eval = (xs.map a.eval).toArray := by
  apply Array.ext'
  simp [h]
theorem arr_eq {α : Type} {l : Array α} {xs : List α} (h : l.toList = xs) : l = xs.toArray := by
  apply Array.ext'
  simp [h]
theorem op_len {c : Call} {x : Operand} {t : TypeId} (ho : o.op = .call c) (hc : c.callee = .builtin .len) (hx : c.args.toList = [x]) (ht : c.argTypes.toList = [t])
    (h : qv (match P.underlying t with
      | some (.array n _) => some (.flat (.int .i64 n))
      | some (.slice _) => lenD (evalD slots x)
      | some .string => lenStr (evalD slots x)
      | _ => none) = some (d, e)) (hH : HR B G w Hr) (hs : SR (ImmB B G) w G slots a) : OpOk P B G w Hr o a d e := by
  obtain ⟨hp, rfl⟩ := qv_some h
  have hv := hs.eval x
  have hrun : (execOp a.eval o).run P w = ((Builtin.len_ #[t] o.type #[a.eval x]).run P w).andThen fun v w' => .ok (.value v) w' := by
    rw [built_run ho hc, args_eq hx, arr_eq ht]
    simp [builtin]
  split at hp
  · rename_i n et hu
    cases hp
    refine OpOk.still hH (V := .int .i64 n) ?_ (by simp [Rep]) rfl
    rw [hrun]
    simp [Builtin.len_, run_underlying hu, goInt]
  · rename_i et hu
    unfold lenD at hp
    split at hp
    · rename_i sz xs tg hk
      cases hp
      rw [hk] at hv
      obtain ⟨A, cc, hv, _⟩ := repX_val hv
      refine OpOk.still hH (V := .int .i64 xs.length) ?_ (by simp [Rep]) rfl
      rw [hrun]
      simp [Builtin.len_, run_underlying hu, hv, goInt]
    · rename_i ag sz k off n cc hk
      cases hp
      rw [hk] at hv
      simp only [Rep] at hv
      obtain ⟨b, _, hv⟩ := hv
      refine OpOk.still hH (V := .int .i64 n) ?_ (by simp [Rep]) rfl
      rw [hrun]
      simp [Builtin.len_, run_underlying hu, hv, goInt]
    · cases hp
  · rename_i hu
    unfold lenStr at hp
    split at hp
    · rename_i s hk
      cases hp
      rw [hk] at hv
      simp only [Rep] at hv
      refine OpOk.still hH (V := .int .i64 s.size) ?_ (by simp [Rep]) rfl
      rw [hrun]
      simp [Builtin.len_, run_underlying hu, hv, goInt]
    · cases hp
  · cases hp
theorem op_cap {c : Call} {x : Operand} {t : TypeId} (ho : o.op = .call c) (hc : c.callee = .builtin .cap) (hx : c.args.toList = [x]) (ht : c.argTypes.toList = [t])
    (h : qv (match P.underlying t with
      | some (.slice _) => capD (evalD slots x)
      | _ => none) = some (d, e)) (hH : HR B G w Hr) (hs : SR (ImmB B G) w G slots a) : OpOk P B G w Hr o a d e := by
  obtain ⟨hp, rfl⟩ := qv_some h
  have hv := hs.eval x
  have hrun : (execOp a.eval o).run P w = ((Builtin.cap_ #[t] o.type #[a.eval x]).run P w).andThen fun v w' => .ok (.value v) w' := by
    rw [built_run ho hc, args_eq hx, arr_eq ht]
    simp [builtin]
  split at hp
  · rename_i et hu
    unfold capD at hp
    split at hp
    · rename_i sz xs hk
      cases hp
      rw [hk] at hv
      obtain ⟨A, cc, hv, _, _, _, hT⟩ := repX_val hv
      simp only [TagOk] at hT
      refine OpOk.still hH (V := .int .i64 xs.length) ?_ (by simp [Rep]) rfl
      rw [hrun]
      simp [Builtin.cap_, run_underlying hu, hv, goInt, hT]
    · rename_i ag sz k off n cc hk
      cases hp
      rw [hk] at hv
      simp only [Rep] at hv
      obtain ⟨b, _, hv⟩ := hv
      refine OpOk.still hH (V := .int .i64 cc) ?_ (by simp [Rep]) rfl
      rw [hrun]
      simp [Builtin.cap_, run_underlying hu, hv, goInt]
    · cases hp
  · cases hp
theorem vals_eq {I : Nat → Nat → Prop} {args : List Operand} {vs : List Value} (hs : SR I w G slots a) (h : mapO toVal (args.map (evalD slots)) = some vs) : args.map a.eval = vs := by
  obtain ⟨h1, h2⟩ := mapO_some h
  refine List.ext_getElem? fun i => ?_
  rw [List.getElem?_map]
  cases hx : args[i]? with
  | none =>
    have := List.getElem?_eq_none_iff.1 hx
    rw [List.getElem?_eq_none (by rw [h1]; simpa using this)]; rfl
  | some x =>
    obtain ⟨v, hv, hf⟩ := h2 i (evalD slots x) (by simp [hx])
    rw [hv, Option.map_some, rep_toVal hf (hs.eval x)]
theorem op_built {c : Call} {b : Builtin} (ho : o.op = .call c) (hc : c.callee = .builtin b) (h : qv (builtD P b c.argTypes o.type (c.args.toList.map (evalD slots))) = some (d, e)) (hH : HR B G w Hr) (hs : SR (ImmB B G) w G slots a) : OpOk P B G w Hr o a d e := by
  obtain ⟨hp, rfl⟩ := qv_some h
  unfold builtD at hp
  cases hm : mapO toVal (c.args.toList.map (evalD slots)) with
  | none => simp [hm] at hp
  | some vs =>
    simp only [hm, Option.bind_some] at hp
    have hv := vals_eq hs hm
    split at hp
    · refine op_pure hp (fun v hr => ?_) hH
      rw [built_run ho hc, args_eq rfl, hv]
      simp [builtin, hr]
    · refine op_pure hp (fun v hr => ?_) hH
      rw [built_run ho hc, args_eq rfl, hv]
      simp [builtin, hr]
    · cases hp
end Go.Proofs.Ytbhnkdnfmlnajaa
