/- Texts of mine, laid together: RdrC, Pmon, PrimR, FMas, FRtu, FRef01, FCrc, GCrc, GRef01, GRtu, GRtuL, FRef07, GRef07, FAnsS, GAnsS, GAw07, GAnsL, GMas. -/
import Derived.Test.YtcpgmbpndpcmdaaKG6
import Derived.Recover
import Derived.Defers
/- answer's reader: what is deferred by Read. -/
namespace Go.Proofs.Ytcpgmbpndpcmdaa
open Go Go.RowKit
set_option linter.unusedSimpArgs false
set_option linter.unusedVariables false
theorem rd_blk {α : Type} {enc : α → Value} {w : World} {V : Value} {l : List α} (h : RdV enc w V l) (p : Addr) (n c : Nat) (hp : V = .slice (some p) n c) (hl : l ≠ []) : p.block < w.heap.size := by
  obtain ⟨A, c', rfl, _, _, hcl⟩ := h.open
  injection hp with e1 e2 e3
  subst e1
  cases l with
  | nil => exact absurd rfl hl
  | cons x l =>
    obtain ⟨b, o, hb, hc⟩ := hcl.resolve_left (by simp)
    obtain rfl := Option.some.inj hb
    exact World.block_lt_of_cell? _ _ (hc 0 (by simp))
theorem belowS' {B : Nat} {a w : World} {p : Addr} {v : Value} (h : Below B a w) (hp : B ≤ p.block) : Below B a (w.setCell p v) := h.setCell hp v
theorem assert_no (T : TypeId) (w : World) : Sem.run Try.prog (Instr.typeAssert .nilIface T 138 true) w = .ok (.tuple #[.agg #[], .bool false]) w := by kernel_rfl
theorem assert_yes (T : TypeId) (w : World) : Sem.run Try.prog (Instr.typeAssert (.iface 138 (.agg #[])) T 138 true) w = .ok (.tuple #[.agg #[], .bool true]) w := by kernel_rfl
set_option maxRecDepth 10000 in
theorem catch_idle_w (p q : Addr) (w : World) :
    CallsD Try.prog 82 #[.pointer (some p), .pointer (some q)] .returning w fun e u' w' => e = .returned (.tuple #[]) ∧ u' = .returning ∧ w' = w.alloc (.cells #[] 138) := by
  refine callsD_of_wpS Try.func82 rfl fun c₀ cs hu => ?_
  simp only [Try.ntmps82, List.size_toArray, List.length_cons, List.length_nil, Nat.reduceAdd, Nat.reduceSub, Array.replicate_succ,
     Array.replicate_zero, List.push_toArray, List.append_toArray, List.nil_append, List.cons_append]
  have ka := fun T w => assert_no T w
  have kb := fun T w => assert_yes T w
  apply wpS_seq
  apply wpS_region
  simp [wpOpsS, go_sem, recoverD, hu, Exit.thenS, ka, kb, storeCells]
  apply wpS_seq
  apply wpS_region
  simp [wpOpsS, go_sem, Exit.thenS]
  refine wpS_cond (t := false) (by simp [Act.eval]) ?_
  simp only [Bool.false_eq_true, if_false]
  refine wpS_of_wp (wp_skip ?_)
  cases c₀
  simp_all [bodyPostS, results, Try.results82]
set_option maxRecDepth 10000 in
theorem catch_w (B1 B2 : Nat) (t1 t2 : TypeId) (c0 c1 c2 c3 d0 : Value) (w : World) (h1 : BX w B1 t1 #[c0, c1, c2, c3]) (h2 : BX w B2 t2 #[d0]) (hne : B1 ≠ B2) :
    CallsD Try.prog 82 #[.pointer (some ⟨B1, 0, none⟩), .pointer (some ⟨B2, 0, none⟩)] (.panicking PV) w fun e u' w' =>
      e = .returned (.tuple #[]) ∧ u' = .panicking [{ v := .iface 138 (.agg #[]), recovered := true }] ∧ (∀ B, B ≤ B1 → B ≤ B2 → B ≤ w.heap.size → Below B w w') ∧ BX w' B1 t1 #[.int .i64 0, .slice none 0 0, .slice none 0 0, .slice none 0 0] ∧ BX w' B2 t2 #[.int .i64 2] := by
  refine callsD_of_wpS Try.func82 rfl fun c₀ cs hu => ?_
  simp only [Try.ntmps82, List.size_toArray, List.length_cons, List.length_nil, Nat.reduceAdd, Nat.reduceSub, Array.replicate_succ,
     Array.replicate_zero, List.push_toArray, List.append_toArray, List.nil_append, List.cons_append]
  have ka := fun T w => assert_no T w
  have kb := fun T w => assert_yes T w
  apply wpS_seq
  apply wpS_region
  simp [wpOpsS, go_sem, recoverD, hu, Exit.thenS, ka, kb, storeCells]
  have f0 := h1.frozen 0
  have f1 := h1.frozen 1
  have f2 := h1.frozen 2
  have f3 := h1.frozen 3
  have y0 := h1.cell 0 rfl
  have y1 := h1.cell 1 rfl
  have y2 := h1.cell 2 rfl
  have y3 := h1.cell 3 rfl
  have g0 := h2.frozen 0
  have z0 := h2.cell 0 rfl
  have hl1 := h1.lt
  have hl2 := h2.lt
  apply wpS_seq
  apply wpS_region
  simp [wpOpsS, go_sem, Exit.thenS]
  refine wpS_cond (t := true) (by simp [Act.eval]) ?_
  simp only [if_true]
  apply wpS_region
  simp [wpOpsS, go_sem, f0, f1, f2, f3, y0, y1, y2, y3, g0, z0, hl1, hl2, bodyPostS, results, Try.results82]
  refine ⟨fun B hB1 hB2 hB3 => ?_, ?_, ?_⟩
  · exact (belowS' (belowS' (belowS' (belowS' (belowS' (Below.refl B w) hB1) hB1) hB1) hB1) hB2).alloc (by simpa [World.setCell] using hB3) _
  · exact (((((h1.set 0 _).set 1 _).set 2 _).set 3 _).other hne 0 _).alloc _
  · exact (((((h2.other hne.symm 0 _).other hne.symm 1 _).other hne.symm 2 _).other hne.symm 3 _).set 0 _).alloc _
theorem take_no2 (w : World) (g : Nat) (A : Option Addr) (k c n : Nat) (hcell : w.cell? ⟨g, 0, none⟩ = some (.slice A k c)) (hn : k < n) :
    Calls Try.prog 83 #[.pointer (some ⟨g, 0, none⟩), .int .i64 (n : Int)] w fun e w' => e = .panicked PV ∧ w' = w := by
  go_enter Try.func83, Try.ntmps83
  go_wp2
  first | exact ⟨rfl, rfl⟩ | simp [bodyPost]
def RdPost (w : World) (x : An) (er : Int) (e : Ending) (w' : World) : Prop := Below w.heap.size w w' ∧ ∃ v1 v2 v3, e = .returned (.tuple #[anW x v1 v2 v3, .int .i64 er]) ∧ Own encT 4 w' w.heap.size v1 x.bits ∧ Own encW 26 w' w.heap.size v2 (toW x.words) ∧ Own encS 9 w' w.heap.size v3 x.texts
theorem RdPost.none {w w' : World} (er : Int) (h : Below w.heap.size w w') : RdPost w anZ er (.returned (.tuple #[.agg #[.int .i64 0, .slice none 0 0, .slice none 0 0, .slice none 0 0], .int .i64 er])) w' :=
  ⟨h, _, _, _, rfl, Own.nil _ _ _ _, Own.nil _ _ _ _, Own.nil _ _ _ _⟩
def outS (a : Rq) (l : List UInt8) : An × Int := if RightP a then (readS a l).elim (anZ, (2 : Int)) (fun x => (x, 0)) else (anZ, 1)
abbrev DF (b1 b2 : Nat) : List Deferred := [{ target := .fn (.func 82) #[.pointer (some ⟨b1, 0, none⟩), .pointer (some ⟨b2, 0, none⟩)], args := #[] }]
/-- the end of Read where it panicked -/
theorem panic_end (w w2 : World) (tmps : Array Value) (c0 c1 c2 c3 d0 : Value) (b1 b2 : Nat) (e1 : b1 = w.heap.size + 1) (e2 : b2 = w.heap.size + 1 + 1) (h4 : tmps[4]? = some (.pointer (some ⟨b1, 0, none⟩))) (h5 : tmps[5]? = some (.pointer (some ⟨b2, 0, none⟩))) (hx : BX w2 b1 48 #[c0, c1, c2, c3]) (he : BX w2 b2 32 #[d0]) (hB : Below w.heap.size w w2) :
    bodyPostD Try.prog Try.f75 (RdPost w anZ 2) (.panic PV) { tmps := tmps, defers := DF b1 b2 } w2 := by
  show Leaves _ _ _ _ _ _ _
  refine leaves_cons (f := 82) (args := #[.pointer (some ⟨b1, 0, none⟩), .pointer (some ⟨b2, 0, none⟩)]) (by simp) (by simp [go_sem]) ?_
  have hlt := hx.lt
  refine (catch_w b1 b2 48 32 c0 c1 c2 c3 d0 w2 hx he (by omega)).mono ?_
  rintro e u' w'' ⟨rfl, rfl, hb, hx2, he2⟩
  have y0 := hx2.cell 0 rfl
  have y1 := hx2.cell 1 rfl
  have y2 := hx2.cell 2 rfl
  have y3 := hx2.cell 3 rfl
  have z0 := he2.cell 0 rfl
  have hB2 := hB.trans (hb w.heap.size (by omega) (by omega) hB.size)
  simp at y0 y1 y2 y3 z0
  simp [Leaves, settle, results, Try.results75, go_sem, h4, h5, y0, y1, y2, y3, z0]
  exact RdPost.none 2 hB2
/-- the end of Read where it returned -/
theorem ret_end (w w2 : World) (tmps : Array Value) (x : An) (v1 v2 v3 : Value) (b1 b2 : Nat) (e1 : b1 = w.heap.size + 1) (e2 : b2 = w.heap.size + 1 + 1) (h4 : tmps[4]? = some (.pointer (some ⟨b1, 0, none⟩))) (h5 : tmps[5]? = some (.pointer (some ⟨b2, 0, none⟩))) (hx : BX w2 b1 48 #[.int .i64 x.exc, v1, v2, v3]) (he : BX w2 b2 32 #[.int .i64 0]) (hB : Below w.heap.size w w2)
    (o1 : Own encT 4 w2 w.heap.size v1 x.bits) (o2 : Own encW 26 w2 w.heap.size v2 (toW x.words)) (o3 : Own encS 9 w2 w.heap.size v3 x.texts) :
    Leaves Try.prog Try.f75 tmps (RdPost w x 0) (DF b1 b2) .returning w2 := by
  refine leaves_cons (f := 82) (args := #[.pointer (some ⟨b1, 0, none⟩), .pointer (some ⟨b2, 0, none⟩)]) (by simp) (by simp [go_sem]) ?_
  have hlt := hx.lt
  refine (catch_idle_w ⟨b1, 0, none⟩ ⟨b2, 0, none⟩ w2).mono ?_
  rintro e u' w'' ⟨rfl, rfl, rfl⟩
  obtain ⟨A1, k1, rfl, _⟩ := o1.rd.open
  obtain ⟨A2, k2, rfl, _⟩ := o2.rd.open
  obtain ⟨A3, k3, rfl, _⟩ := o3.rd.open
  have hx2 := hx.alloc (.cells #[] 138)
  have he2 := he.alloc (.cells #[] 138)
  have y0 := hx2.cell 0 rfl
  have y1 := hx2.cell 1 rfl
  have y2 := hx2.cell 2 rfl
  have y3 := hx2.cell 3 rfl
  have z0 := he2.cell 0 rfl
  simp at y0 y1 y2 y3 z0
  simp [Leaves, settle, results, Try.results75, go_sem, h4, h5, y0, y1, y2, y3, z0]
  exact ⟨belowA hB _, _, _, _, rfl, o1.alloc _, o2.alloc _, o3.alloc _⟩
set_option maxRecDepth 100000 in
set_option maxHeartbeats 3200000 in
theorem Read_w (w : World) (a : Rq) (oa : RqOk a) (vw vb vl : Value) (l : List UInt8) (a1 : RdV encW w vw (toW a.words)) (a2 : RdV encT w vb a.bits) (a3 : RdV encB w vl l) : Calls Try.prog 75 #[rqW a vw vb, vl] w (RdPost w (outS a l).1 (outS a l).2) := by
  have hmf : ∀ (fn : Fn) (first cap : Array Value) (w : World), (Instr.makeFunc fn first cap).run Try.prog w = .ok (.func fn first cap) w := fun _ _ _ _ => rfl
  obtain ⟨A, cp, rfl, hcp, hm, hcl⟩ := a3.open
  have ha1 := Lib.hid a1
  have ha2 := Lib.hid a2
  have ha3 := Lib.hid a3
  have hoa := Lib.hid oa
  have hcl := Lib.hid hcl
  obtain ⟨spec, hspec⟩ : ∃ s, Hid (s = outS a l) := ⟨_, Lib.hid rfl⟩
  rw [← hspec.out]
  clear a1 a2 a3 oa
  unfold rqW
  go_enter_defers Try.func75, Try.ntmps75
  go_wp2_with fail
  refine (askRight_w a vw vb _ hoa.out.w (((ha1.out.alloc _).alloc _).alloc _) (((ha2.out.alloc _).alloc _).alloc _)).mono ?_
  rintro e w1 ⟨rfl, hB1⟩
  have hq : BX w1 w.heap.size 28 #[.int .i64 a.code, .int .i64 a.addr, .int .i64 a.cnt, .int .i64 a.to_, vw, vb, .int .u16 a.and_, .int .u16 a.or_] := (((BX.made rfl).alloc _).alloc _).below hB1
  have hx : BX w1 (w.heap.size + 1) 48 #[.int .i64 0, .slice none 0 0, .slice none 0 0, .slice none 0 0] := ((BX.made (by simp)).alloc _).below hB1
  have he : BX w1 (w.heap.size + 2) 32 #[.int .i64 0] := (BX.made (by simp)).below hB1
  have hG1 : Below w.heap.size w w1 := belowT (belowA (belowA (belowA (Below.refl _ w) _) _) _) hB1
  have hG1 := Lib.hid hG1
  clear hB1
  by_cases hr : RightP a
  case neg =>
    have hs2 : spec = (anZ, 1) := by rw [hspec.out]; unfold outS; rw [if_neg hr]
    clear hspec
    subst hs2
    have hd : decide (RightP a) = false := decide_eq_false hr
    rw [hd]
    have f0 := hx.frozen 0
    have f1 := hx.frozen 1
    have f2 := hx.frozen 2
    have f3 := hx.frozen 3
    have y0 := hx.cell 0 rfl
    have y1 := hx.cell 1 rfl
    have y2 := hx.cell 2 rfl
    have y3 := hx.cell 3 rfl
    have g0 := he.frozen 0
    have z0 := he.cell 0 rfl
    clear hr hd hq
    go_wp2
    simp [bodyPostD, Leaves, settle, results, Try.results75, go_sem, y0, y1, y2, y3, z0]
    exact RdPost.none 1 (belowS' (belowS' (belowS' (belowS' (belowS' hG1.out (by simp)) (by simp)) (by simp)) (by simp)) (by simp; omega))
  have hd : decide (RightP a) = true := decide_eq_true hr
  rw [hd]
  have hcode := code_le hr
  have hs2 : Hid (spec = (readS a l).elim (anZ, (2 : Int)) (fun x => (x, 0))) := Lib.hid (by rw [hspec.out]; unfold outS; rw [if_pos hr])
  have hq := Lib.hid hq
  have hx := Lib.hid hx
  have he := Lib.hid he
  have hrr := Lib.hid hr
  have hl0 := hx.out.lt
  have hl00 := he.out.lt
  have hsw := hG1.out.size
  clear hspec hd hr
  have hb1 : ∀ (W : World), Below w1.heap.size w1 W → BX W (w.heap.size + 1) 48 #[.int .i64 0, .slice none 0 0, .slice none 0 0, .slice none 0 0] ∧ BX W (w.heap.size + 2) 32 #[.int .i64 0] := fun W hW => ⟨hx.out.below hW, he.out.below hW⟩
  have hb1 := Lib.hid hb1
  cases l with
  | nil =>
    have hs3 : spec = (anZ, 2) := by rw [hs2.out]; rfl
    clear hs2
    subst hs3
    go_wp2_with fail
    refine (take_no2 _ _ A 0 cp 1 (cell_made 0 _ rfl) (by omega)).mono ?_
    rintro e w2 ⟨rfl, rfl⟩
    exact panic_end w _ _ _ _ _ _ _ _ _ rfl rfl rfl rfl (hx.out.alloc _) (he.out.alloc _) (belowA hG1.out _)
  | cons c r =>
    obtain ⟨pb, po, hA, hcells⟩ := hcl.out.resolve_left (by simp)
    subst hA
    have hpb : pb < w.heap.size := by
      have := hcells 0 (by simp)
      exact World.block_lt_of_cell? _ _ this
    have hsz := hG1.out.size
    have hne12 : w.heap.size + 1 ≠ w.heap.size + 1 + 1 := by omega
    have hne21 : w.heap.size + 1 + 1 ≠ w.heap.size + 1 := by omega
    have hR : Rr (w1.alloc (.cells #[.slice (some ⟨pb, po, none⟩) (c :: r).length cp] 142)) w1.heap.size (c :: r) := by
      refine ⟨⟨some ⟨pb, po, none⟩, cp, cell_made 0 _ rfl, (ha3.out.below hG1.out).alloc _, ?_⟩, ?_⟩
      · rintro p hp
        obtain rfl := Option.some.inj hp
        show pb < w1.heap.size
        omega
      · exact (BX.made (t := 142) rfl).frozen 0
    have hR := Lib.hid hR
    have hcells := Lib.hid hcells
    clear hcl hb1
    go_wp2_with fail
    refine (take_ok _ w1.heap.size (c :: r) 1 hR.out (by simp)).mono ?_
    rintro e w2 ⟨v1, rfl, h1, h2, h3⟩
    rw [take_head] at h1
    obtain ⟨b', o', c1, rfl, hc⟩ := h1.each (by simp)
    have k1 := hc 0 (by simp)
    have hn2 := c.toNat_lt
    simp only [encB, List.getElem_cons_zero, Nat.add_zero] at k1
    have hq2 := Lib.hid ((hq.out.alloc _).grown h3 (by intro e; have e := Option.some.inj e; have := hq.out.lt; omega))
    have hx2 := Lib.hid ((hx.out.alloc _).grown h3 (by intro e; have e := Option.some.inj e; have := hx.out.lt; omega))
    have he2 := Lib.hid ((he.out.alloc _).grown h3 (by intro e; have e := Option.some.inj e; have := he.out.lt; omega))
    have hB2 := Lib.hid (belowG (belowA hG1.out _) h3 (by rintro k hk; obtain rfl := Option.some.inj hk; exact hsz))
    have h2 : Rr w2 w1.heap.size r := h2
    have hR2 := Lib.hid h2
    have hl2 : w1.heap.size < w2.heap.size := hR2.out.blk
    obtain ⟨n, hn⟩ : ∃ n, Hid (n = c.toNat) := ⟨_, Lib.hid rfl⟩
    rw [← hn.out] at k1 hn2
    have q0 := hq2.out.cell 0 rfl
    clear hc h1 h2 h3 hq hx he hR
    have hw8 : IntKind.u8.wrap a.code = a.code := by rw [wrap_u8]; omega
    have hor : Go.bits .or .u8 a.code 128 = a.code + 128 := by
      have h := of_decide_eq_true hrr.out.1.1
      rcases h with h | h | h | h | h | h | h | h | h | h | h <;> rw [h] <;> decide
    by_cases d1 : (n : Int) = a.code + 128
    · have d1' : ((n : Int) == a.code + 128) = true := by simpa using d1
      have d2 : ¬ ((n : Int) = a.code) := by omega
      have d2' : ((n : Int) != a.code) = true := by simpa using d2
      match r, hn, hs2, hcells, ha3, hR2 with
      | [], hn, hs2, hcells, ha3, hR2 =>
        have hs3 : spec = (anZ, 2) := by rw [hs2.out, readS_cons, if_neg (by rintro ⟨_, h, _⟩; simp at h), if_neg (by rw [← hn.out]; exact d2)]; rfl
        clear hs2
        subst hs3
        go_wp2
        exact panic_end w _ _ _ _ _ _ _ _ _ rfl rfl rfl rfl hx2.out he2.out hB2.out
      | y :: z :: r', hn, hs2, hcells, ha3, hR2 =>
        have hs3 : spec = (anZ, 2) := by rw [hs2.out, readS_cons, if_neg (by rintro ⟨_, h, _⟩; simp at h), if_neg (by rw [← hn.out]; exact d2)]; rfl
        clear hs2
        subst hs3
        have hlen : ¬ (((c :: y :: z :: r').length : Int) = 2) := by simp only [List.length_cons]; omega
        have hlen' : (((c :: y :: z :: r').length : Int) == 2) = false := by simpa using hlen
        generalize (c :: y :: z :: r').length = m at hlen hlen' ⊢
        go_wp2
        exact panic_end w _ _ _ _ _ _ _ _ _ rfl rfl rfl rfl hx2.out he2.out hB2.out
      | [y], hn, hs2, hcells, ha3, hR2 =>
        have hc1 : w2.cell? ⟨pb, po + 1, none⟩ = some (encB y) := (hB2.out.cell hpb).trans (hcells.out 1 (by simp))
        have hy2 := y.toNat_lt
        have hm2 : 2 ≤ cp := by simpa using hcp
        obtain ⟨m, hm⟩ : ∃ m, Hid (m = y.toNat) := ⟨_, Lib.hid rfl⟩
        simp only [encB] at hc1
        rw [← hm.out] at hc1 hy2
        have hw64 : IntKind.i64.wrap (m : Int) = (m : Int) := IntWalk.i64_in _ (by omega)
        by_cases d3 : 0 < m
        · have hs3 : spec = (⟨(m : Int), [], [], []⟩, 0) := by rw [hs2.out, readS_cons, if_pos ⟨by rw [← hn.out]; exact d1, rfl, by simp only [List.getD_cons_zero]; rw [← hm.out]; exact d3⟩]; simp only [List.getD_cons_zero]; rw [← hm.out]; rfl
          clear hs2
          subst hs3
          have d3' : (0 : Int) < (m : Int) := by omega
          have f0 := hx2.out.frozen 0
          have f1 := hx2.out.frozen 1
          have f2 := hx2.out.frozen 2
          have f3 := hx2.out.frozen 3
          have y0 := hx2.out.cell 0 rfl
          have y1 := hx2.out.cell 1 rfl
          have y2 := hx2.out.cell 2 rfl
          have y3 := hx2.out.cell 3 rfl
          have g0 := he2.out.frozen 0
          have z0 := he2.out.cell 0 rfl
          go_wp2
          exact ret_end w _ _ ⟨(m : Int), [], [], []⟩ _ _ _ (w.heap.size + 1) (w.heap.size + 1 + 1) rfl rfl rfl rfl (((((hx2.out.set 0 _).set 1 _).set 2 _).set 3 _).other hne12 0 _) (((((he2.out.other hne21 0 _).other hne21 1 _).other hne21 2 _).other hne21 3 _).set 0 _)
            (belowS' (belowS' (belowS' (belowS' (belowS' hB2.out (by simp)) (by simp)) (by simp)) (by simp)) (by simp; omega)) (Own.nil _ _ _ _) (Own.nil _ _ _ _) (Own.nil _ _ _ _)
        · have hs3 : spec = (anZ, 2) := by rw [hs2.out, readS_cons, if_neg (by rintro ⟨_, _, h⟩; simp only [List.getD_cons_zero] at h; rw [← hm.out] at h; exact d3 h), if_neg (by rw [← hn.out]; exact d2)]; rfl
          clear hs2
          subst hs3
          obtain rfl : m = 0 := by omega
          go_wp2
          exact panic_end w _ _ _ _ _ _ _ _ _ rfl rfl rfl rfl hx2.out he2.out hB2.out
    · have d1' : ((n : Int) == a.code + 128) = false := by simpa using d1
      by_cases d2 : (n : Int) = a.code
      · have d2' : ((n : Int) != a.code) = false := by simpa using d2
        have hs3 : Hid (spec = (bodyS a r).elim (anZ, (2 : Int)) (fun x => (x, 0))) := Lib.hid (by rw [hs2.out, readS_cons, if_neg (by rw [← hn.out]; intro h; exact d1 h.1), if_pos (by rw [← hn.out]; exact d2)])
        have q1 := hq2.out.cell 1 rfl
        have q2 := hq2.out.cell 2 rfl
        have q3 := hq2.out.cell 3 rfl
        have q4 := hq2.out.cell 4 rfl
        have q5 := hq2.out.cell 5 rfl
        have q6 := hq2.out.cell 6 rfl
        have q7 := hq2.out.cell 7 rfl
        have hbody := body_w w2 w1.heap.size r a hrr.out hoa.out vw vb (ha1.out.below hB2.out) (ha2.out.below hB2.out) (fun p n c e h => by have := rd_blk ha1.out p n c e h; omega) (fun p n c e h => by have := rd_blk ha2.out p n c e h; omega) hR2.out
        unfold rqW at hbody
        have hbody := Lib.hid hbody
        clear hs2
        go_wp2_with fail
        refine hbody.out.mono ?_
        rintro e w3 ⟨hG3, hm⟩
        have hx3 := hx2.out.grown hG3 (by intro e; have e := Option.some.inj e; omega)
        have he3 := he2.out.grown hG3 (by intro e; have e := Option.some.inj e; omega)
        have hB3 : Below w.heap.size w w3 := belowG hB2.out hG3 (by rintro k hk; obtain rfl := Option.some.inj hk; omega)
        cases hbs : bodyS a r with
        | none =>
          rw [hbs] at hm
          have hs4 : spec = (anZ, 2) := by rw [hs3.out, hbs]; rfl
          simp only at hm
          subst hm
          clear hs3
          subst hs4
          exact panic_end w _ _ _ _ _ _ _ _ _ rfl rfl rfl rfl hx3 he3 hB3
        | some x =>
          rw [hbs] at hm
          have hs4 : spec = (x, 0) := by rw [hs3.out, hbs]; rfl
          clear hs3
          subst hs4
          obtain ⟨hx0, v1, v2, v3, rfl, o1, o2, o3⟩ := hm
          obtain ⟨A1, j1, rfl, _⟩ := o1.rd.open
          obtain ⟨A2, j2, rfl, _⟩ := o2.rd.open
          obtain ⟨A3, j3, rfl, _⟩ := o3.rd.open
          have f0 := hx3.frozen 0
          have f1 := hx3.frozen 1
          have f2 := hx3.frozen 2
          have f3 := hx3.frozen 3
          have y0 := hx3.cell 0 rfl
          have y1 := hx3.cell 1 rfl
          have y2 := hx3.cell 2 rfl
          have y3 := hx3.cell 3 rfl
          have g0 := he3.frozen 0
          have z0 := he3.cell 0 rfl
          have hsz2 : w.heap.size + 3 ≤ w2.heap.size := by have := he2.out.lt; omega
          have hx3 := Lib.hid hx3
          have he3 := Lib.hid he3
          have hB3 := Lib.hid hB3
          have o1 := Lib.hid o1
          have o2 := Lib.hid o2
          have o3 := Lib.hid o3
          have hx0 := Lib.hid hx0
          clear hG3 hbs q0 q1 q2 q3 q4 q5 q6 q7 hq2 hx2 he2 hB2 hR2 hbody k1
          unfold anW
          go_wp2
          refine ret_end w _ _ x (.slice A1 x.bits.length j1) (.slice A2 (toW x.words).length j2) (.slice A3 x.texts.length j3) (w.heap.size + 1) (w.heap.size + 1 + 1) rfl rfl rfl rfl (by rw [hx0.out]; exact (((((hx3.out.set 0 _).set 1 _).set 2 _).set 3 _).other hne12 0 _)) (((((he3.out.other hne21 0 _).other hne21 1 _).other hne21 2 _).other hne21 3 _).set 0 _)
            (belowS' (belowS' (belowS' (belowS' (belowS' hB3.out (by simp)) (by simp)) (by simp)) (by simp)) (by simp; omega)) ?_ ?_ ?_
          · exact (own_other (own_other (own_other (own_other (own_other o1.out (by omega)) (by omega)) (by omega)) (by omega)) (by omega)).lower (by omega)
          · exact (own_other (own_other (own_other (own_other (own_other o2.out (by omega)) (by omega)) (by omega)) (by omega)) (by omega)).lower (by omega)
          · exact (own_other (own_other (own_other (own_other (own_other o3.out (by omega)) (by omega)) (by omega)) (by omega)) (by omega)).lower (by omega)
      · have d2' : ((n : Int) != a.code) = true := by simpa using d2
        have hs3 : spec = (anZ, 2) := by rw [hs2.out, readS_cons, if_neg (by rw [← hn.out]; intro h; exact d1 h.1), if_neg (by rw [← hn.out]; exact d2)]; rfl
        clear hs2
        subst hs3
        go_wp2
        exact panic_end w _ _ _ _ _ _ _ _ _ rfl rfl rfl rfl hx2.out he2.out hB2.out
end Go.Proofs.Ytcpgmbpndpcmdaa

/- The front evaluator answers no less where the calls, and the functions known by contracts, answer no less. -/
namespace Go.Proofs.Ytcpgmbpndpcmdaa
open Go
set_option linter.unusedSimpArgs false
set_option linter.unusedVariables false
def leR {β : Type} (x y : Option β) : Prop := ∀ r, x = some r → y = some r
theorem leR_refl {β : Type} (x : Option β) : leR x x := fun _ h => h
theorem leR_bi {α β : Type} {x x' : Option α} {k k' : α → Option β} (h : leR x x') (hk : ∀ a, leR (k a) (k' a)) : leR (bi x k) (bi x' k') := by
  intro r e
  obtain ⟨a, e1, e2⟩ := bi_eq e
  rw [h a e1, bi_some]
  exact hk a r e2
theorem leR_bind {α β : Type} {x x' : Option α} {k k' : α → Option β} (h : leR x x') (hk : ∀ a, leR (k a) (k' a)) : leR (x.bind k) (x'.bind k') := by
  intro r e
  obtain ⟨a, e1, e2⟩ := Option.bind_eq_some_iff.1 e
  rw [h a e1]
  exact hk a r e2
theorem leR_map {α β : Type} {x x' : Option α} (f : α → β) (h : leR x x') : leR (x.map f) (x'.map f) := by
  intro r e
  obtain ⟨a, e1, e2⟩ := Option.map_eq_some_iff.1 e
  rw [h a e1, Option.map_some, e2]
variable {cf cf' : CF}
theorem callP_mono (hc : CLe cf cf') (f : FuncId) (ti : Bool) (args : List DV) : leR (callP cf f ti args) (callP cf' f ti args) :=
  leR_bi (leR_refl _) fun bs => leR_bi (fun r h => hc f bs [] 0 r h) fun r => leR_refl _
theorem callO_mono (hc : CLe cf cf') (f : FuncId) (args : List DV) (H : Heap) : leR (callO cf f args H) (callO cf' f args H) :=
  leR_bi (fun r h => hc f args H _ r h) fun r => leR_refl _
theorem callW_mono (hc : CLe cf cf') (f : FuncId) (args : List DV) (H : Heap) (fl : Nat) : leR (callW cf f args H fl) (callW cf' f args H fl) :=
  leR_bi (fun r h => hc f args H _ r h) fun r => leR_refl _
theorem callD_mono (hc : CLe cf cf') (m : CM) (fl : Nat) (f : FuncId) (args : List DV) (H : Heap) : leR (callD cf m fl f args H) (callD cf' m fl f args H) := by
  cases m with
  | pure ti => exact leR_bind (leR_refl _) fun bs => leR_bind (fun r h => hc f bs [] 0 r h) fun r => leR_refl _
  | ro => exact leR_bind (fun r h => hc f args H _ r h) fun r => leR_refl _
  | rw => exact leR_bind (fun r h => hc f args H _ r h) fun r => leR_refl _
  | keep => exact leR_map _ (fun r h => hc f args H _ r h)
theorem callV_mono (hc : CLe cf cf') (md : FuncId → CM) (fl : Nat) (f : DV) (args : List DV) (H : Heap) : leR (callV cf md fl f args H) (callV cf' md fl f args H) := by
  unfold callV
  cases fnOf f with
  | none =>
    dsimp only
    split
    · exact callD_mono hc _ _ _ _ _
    · exact leR_refl _
  | some p => exact callD_mono hc _ _ _ _ _
theorem callVG_mono (hc : CLe cf cf') (md : FuncId → CM) (fl : Nat) (f : DV) (args : List DV) (H : Heap) : leR (callVG cf md fl f args H) (callVG cf' md fl f args H) := leR_map _ (callV_mono hc _ _ _ _ _)
theorem callVP_mono (hc : CLe cf cf') (md : FuncId → CM) (f : DV) (args : List DV) : leR (callVP cf md f args) (callVP cf' md f args) := by
  unfold callVP
  cases fnOf f with
  | none => exact leR_refl _
  | some p =>
    dsimp only
    cases md p.1 with
    | pure ti => exact callP_mono hc _ _ _
    | _ => exact leR_refl _
inductive leO : OpR → OpR → Prop where
  | same (r : OpR) : leO r r
  | a {x y : Option DV} (h : leR x y) : leO (.a x) (.a y)
  | b {x y : Option (DV × Heap)} (h : leR x y) : leO (.b x) (.b y)
theorem callR_mono (hc : CLe cf cf') (P : Program) (md : FuncId → CM) (fl : Nat) (t : TypeId) (c : Call) (ρ : Operand → DV) (H : Heap) : leO (callR P cf md fl t c ρ H) (callR P cf' md fl t c ρ H) := by
  unfold callR
  cases hcal : c.callee with
  | builtin b => cases b <;> exact .same _
  | value f =>
    cases f with
    | func g =>
      dsimp only
      cases md g with
      | pure ti => exact .a (callP_mono hc _ _ _)
      | ro => exact .a (callO_mono hc _ _ _)
      | rw => exact .b (callW_mono hc _ _ _ _)
      | keep => exact .b fun r h => hc _ _ _ _ r h
    | tmp k =>
      dsimp only
      cases vpu md t with
      | true => exact .a (callVP_mono hc _ _ _)
      | false => exact .b (callVG_mono hc _ _ _ _ _)
    | const v => exact .b (callVG_mono hc _ _ _ _ _)
    | global g => exact .b (callVG_mono hc _ _ _ _ _)
  | _ => exact .same _
theorem opR_mono (hc : CLe cf cf') (P : Program) (md : FuncId → CM) (fl N : Nat) (st : Bool) (nid : Nat) (o : Oper) (s : List DV) (H : Heap) : leO (opR ⟨P, cf, md, fl, N⟩ st nid o s H) (opR ⟨P, cf', md, fl, N⟩ st nid o s H) := by
  unfold opR
  cases ho : o.op with
  | call c => exact callR_mono hc _ _ _ _ _ _ _
  | _ => exact .same _
theorem stepG_mono {r r' : OpR} (h : leO r r') (g : Option (DV × Bool)) (H : Heap) {k k' : DV → Heap → R} (hk : ∀ d H, leR (k d H) (k' d H)) : leR (stepG g r H k) (stepG g r' H k') := by
  have hw : ∀ (c : DV) (w : Bool) {x y : Option DV}, leR x y → leR (wantF c w x) (wantF c w y) := by
    intro c w x y h
    unfold wantF
    cases guardD c w with
    | none => exact leR_refl _
    | some b => cases b with
      | true => exact h
      | false => exact leR_refl _
  have hh : ∀ (c : DV) (w : Bool) {x y : Option (DV × Heap)}, leR x y → leR (wantH c w H x) (wantH c w H y) := by
    intro c w x y h
    unfold wantH
    cases guardD c w with
    | none => exact leR_refl _
    | some b => cases b with
      | true => exact h
      | false => exact leR_refl _
  cases g with
  | none =>
    cases h with
    | same => cases r with
      | m d => exact hk d H
      | a x => exact leR_bi (leR_refl _) fun d => hk d H
      | b x => exact leR_bi (leR_refl _) fun p => hk p.1 p.2
      | h d x => exact leR_bi (leR_refl _) fun H' => hk d H'
    | a h => exact leR_bi h fun d => hk d H
    | b h => exact leR_bi h fun p => hk p.1 p.2
  | some p =>
    cases h with
    | same => cases r with
      | m d => exact leR_bi (leR_refl _) fun d => hk d H
      | a x => exact leR_bi (leR_refl _) fun d => hk d H
      | b x => exact leR_bi (leR_refl _) fun p => hk p.1 p.2
      | h d x => exact leR_bi (leR_refl _) fun p => hk p.1 p.2
    | a h => exact leR_bi (hw _ _ h) fun d => hk d H
    | b h => exact leR_bi (hh _ _ h) fun p => hk p.1 p.2
theorem opsG_mono (hc : CLe cf cf') (P : Program) (md : FuncId → CM) (fl N : Nat) (st : Bool) (ops : Array Oper) : ∀ (l : List Oper) (nid : Nat) (s : List DV) (H : Heap) (k k' : KF), (∀ s H, leR (k s H) (k' s H)) → leR (opsG ⟨P, cf, md, fl, N⟩ st ops l nid s H k) (opsG ⟨P, cf', md, fl, N⟩ st ops l nid s H k') := by
  intro l
  induction l with
  | nil => intro nid s H k k' hk; exact hk s H
  | cons o l ih =>
    intro nid s H k k' hk
    unfold opsG
    cases moveOf o with
    | some x =>
      simp only [evalK_eq, forceL_eq]
      exact ih _ _ _ _ _ hk
    | none =>
      dsimp only
      cases guardOf ops o s with
      | none => exact leR_refl _
      | some g =>
        refine stepG_mono (opR_mono hc _ _ _ _ _ _ _ _ _) g H fun d H' => ?_
        simp only [forceL_eq]
        cases isAl o with
        | true => exact ih _ _ _ _ _ hk
        | false => exact ih _ _ _ _ _ hk
theorem loopG_mono (keep out : List Nat) (N : Nat) {body body' : List DV → Heap → (Ex → KF) → R} (hb : ∀ s H (k k' : Ex → KF), (∀ x s H, leR (k x s H) (k' x s H)) → leR (body s H k) (body' s H k')) : ∀ (m : Nat) (s : List DV) (H : Heap) (k k' : Ex → KF), (∀ x s H, leR (k x s H) (k' x s H)) → leR (loopG keep out N body m s H k) (loopG keep out N body' m s H k') := by
  intro m
  induction m with
  | zero => intro s H k k' hk; exact leR_refl _
  | succ m ih =>
    intro s H k k' hk
    rw [loopG_succ, loopG_succ]
    refine hb s H _ _ fun x s H => ?_
    cases x with
    | normal => simp only [forceL_eq]; exact ih _ _ _ _ hk
    | exit i => simp only [forceL_eq]; exact hk _ _ _
    | ret => simp only [forceL_eq]; exact hk _ _ _
theorem execG_mono (hc : CLe cf cf') (P : Program) (md : FuncId → CM) (fl N n : Nat) : ∀ (c : Code) (ks : List (List Nat × List Nat)) (s : List DV) (H : Heap) (k k' : Ex → KF), (∀ x s H, leR (k x s H) (k' x s H)) → leR (execG ⟨P, cf, md, fl, N⟩ n c ks s H k) (execG ⟨P, cf', md, fl, N⟩ n c ks s H k') := by
  intro c
  induction c with
  | skip => intro ks s H k k' hk; exact hk _ _ _
  | region id ops draw =>
    intro ks s H k k' hk
    unfold execG
    simp only [holesF_eq]
    cases (draw && !drawOk ops (ops.toList.map (sCls md false))) with
    | false => exact opsG_mono hc _ _ _ _ _ _ _ _ _ _ _ _ fun s H => hk _ _ _
    | true =>
      dsimp only
      cases drawOk ops (ops.toList.map fun o => sCls md (isElLd P ops o) o) with
      | true => exact opsG_mono hc _ _ _ _ _ _ _ _ _ _ _ _ fun s H => hk _ _ _
      | false => exact leR_refl _
  | seq a b iha ihb =>
    intro ks s H k k' hk
    unfold execG
    refine iha _ _ _ _ _ fun x s H => ?_
    cases x with
    | normal => exact ihb _ _ _ _ _ hk
    | exit i => exact hk _ _ _
    | ret => exact hk _ _ _
  | cond c a b iha ihb =>
    intro ks s H k k' hk
    unfold execG
    have ha := iha (ks.take (nloops a)) s H k k' hk
    have hb := ihb (ks.drop (nloops a)) s H k k' hk
    intro r e
    unfold condR at e ⊢
    split at e
    · exact ha r e
    · exact hb r e
    · cases e
  | block id b ih =>
    intro ks s H k k' hk
    unfold execG
    refine ih _ _ _ _ _ fun x s H => ?_
    cases x with
    | normal => exact hk _ _ _
    | exit i =>
      dsimp only
      split
      · exact hk _ _ _
      · exact hk _ _ _
    | ret => exact hk _ _ _
  | loop b ih =>
    intro ks s H k k' hk
    unfold execG
    simp only [forceL_eq]
    refine loopG_mono (body := execG ⟨P, cf, md, fl, N⟩ n b ks.tail) (body' := execG ⟨P, cf', md, fl, N⟩ n b ks.tail) _ _ _ (fun s H k k' hk => ih ks.tail s H k k' hk) _ _ _ _ _ fun x s H => ?_
    cases x with
    | normal => exact leR_refl _
    | exit i => exact hk _ _ _
    | ret => exact hk _ _ _
  | scope b ih => intro ks s H k k' hk; exact ih _ _ _ _ _ hk
  | exit id => intro ks s H k k' hk; exact hk _ _ _
  | ret => intro ks s H k k' hk; exact hk _ _ _
  | _ => intros; exact leR_refl _
/-- two ways to know functions by contracts: one is wider -/
structure ELe (E E' : Env) : Prop where
  md : E'.md = E.md
  ks : E'.ks = E.ks
  some : ∀ f g, E.prim f = some g → ∀ args H r, g args H = some r → ∃ g', E'.prim f = some g' ∧ g' args H = some r
  none : ∀ f, E.prim f = none → E'.prim f = none
theorem callG_mono (P : Program) {E E' : Env} (hE : ELe E E') : ∀ n, CLe (callG P E n) (callG P E' n) := by
  intro n
  induction n with
  | zero => intro f args H fl r h; cases h
  | succ n ih =>
    intro f args H fl r h
    rw [callG_eq] at h ⊢
    unfold bodyG at h ⊢
    cases hp : E.prim f with
    | some g =>
      rw [hp] at h
      obtain ⟨g', h1, h2⟩ := hE.some f g hp args H r h
      rw [h1]
      exact h2
    | none =>
      rw [hp] at h
      rw [hE.none f hp]
      dsimp only at h ⊢
      cases hf : P.funcs[f]? with
      | none => rw [hf] at h; cases h
      | some fn =>
        rw [hf] at h
        dsimp only at h ⊢
        cases hb : fn.body with
        | none => rw [hb] at h; cases h
        | some c =>
          rw [hb] at h
          dsimp only at h ⊢
          split at h
          · cases h
          · rename_i hlt
            rw [if_neg hlt]
            simp only [forceL_eq] at h ⊢
            rw [hE.md, hE.ks]
            exact execG_mono ih P E.md fl fn.ntmps n c (E.ks f) _ H _ _ (fun x s H => leR_refl _) r h
end Go.Proofs.Ytcpgmbpndpcmdaa

/- answer.Read as a function known by a contract: a wider way to know functions. -/
namespace Go.Proofs.Ytcpgmbpndpcmdaa
open Go Go.RowKit
set_option linter.unusedSimpArgs false
set_option linter.unusedVariables false
def dRq : DV → Option Rq
  | .agg [.flat (.int .i64 c), .flat (.int .i64 ad), .flat (.int .i64 k), .flat (.int .i64 t), .list _ ws _, .list _ bs _, .flat (.int .u16 an), .flat (.int .u16 o)] => (mapO dW ws).bind fun w => (mapO dT bs).map fun b => ⟨c, ad, k, t, ofW w, b, an, o⟩
  | _ => none
def primRead : Prim
  | [ra, .list _ bs _], H => (dRq ra).bind fun a => (mapO dB bs).bind fun l => if (0 ≤ a.and_ ∧ a.and_ < 65536) ∧ (0 ≤ a.or_ ∧ a.or_ < 65536) ∧ a.words.length ≤ 3000 ∧ a.bits.length ≤ 30000 then some (.tup [anE (outS a l).1 .sh .sh .sh, .flat (.int .i64 (outS a l).2)], H) else none
  | _, _ => none
theorem map_eqS {α β : Type} {f : α → β} {x : Option α} {b : β} (h : x.map f = some b) : ∃ a, x = some a ∧ f a = b := Option.map_eq_some_iff.1 h
theorem dRq_open {ra : DV} {a : Rq} (h : dRq ra = some a) : ∃ c ad k t s1 ws t1 s2 bs t2 an o w b, ra = .agg [.flat (.int .i64 c), .flat (.int .i64 ad), .flat (.int .i64 k), .flat (.int .i64 t), .list s1 ws t1, .list s2 bs t2, .flat (.int .u16 an), .flat (.int .u16 o)] ∧ mapO dW ws = some w ∧ mapO dT bs = some b ∧ a = ⟨c, ad, k, t, ofW w, b, an, o⟩ := by
  unfold dRq at h
  split at h
  · obtain ⟨w, h1, h⟩ := Option.bind_eq_some_iff.1 h
    obtain ⟨b, h2, rfl⟩ := map_eqS h
    exact ⟨_, _, _, _, _, _, _, _, _, _, _, _, w, b, rfl, h1, h2, rfl⟩
  · cases h
theorem dRq_rep {I : Nat → Nat → Prop} {w : World} {G : Gh} {ra : DV} {a : Rq} {V : Value} (h : dRq ra = some a) (hr : Rep I w G ra V) : ∃ vw vb, V = rqW a vw vb ∧ RdV encW w vw (toW a.words) ∧ RdV encT w vb a.bits ∧ Words a.words := by
  obtain ⟨c, ad, k, t, s1, ws, t1, s2, bs, t2, an, o, l, b, rfl, h1, h2, rfl⟩ := dRq_open h
  unfold Rep at hr
  obtain ⟨vs, rfl, hr⟩ := hr
  unfold RepL at hr
  obtain ⟨x1, r1, e1, k1, hr⟩ := hr
  unfold RepL at hr
  obtain ⟨x2, r2, e2, k2, hr⟩ := hr
  unfold RepL at hr
  obtain ⟨x3, r3, e3, k3, hr⟩ := hr
  unfold RepL at hr
  obtain ⟨x4, r4, e4, k4, hr⟩ := hr
  unfold RepL at hr
  obtain ⟨x5, r5, e5, k5, hr⟩ := hr
  unfold RepL at hr
  obtain ⟨x6, r6, e6, k6, hr⟩ := hr
  unfold RepL at hr
  obtain ⟨x7, r7, e7, k7, hr⟩ := hr
  unfold RepL at hr
  obtain ⟨x8, r8, e8, k8, hr⟩ := hr
  unfold RepL at hr
  unfold Rep at k1 k2 k3 k4 k7 k8
  subst hr; subst e8; subst e7; subst e6; subst e5; subst e4; subst e3; subst e2
  subst k1; subst k2; subst k3; subst k4; subst k7; subst k8
  have hv : vs = #[.int .i64 c, .int .i64 ad, .int .i64 k, .int .i64 t, x5, x6, .int .u16 an, .int .u16 o] := by apply Array.ext'; simpa using e1
  subst hv
  have w1 := list_rd dW_some (fun a => rfl) k5 h1
  have w2 := list_rd dT_some (fun a => rfl) k6 h2
  exact ⟨x5, x6, rfl, by rw [toW_ofW]; exact w1, w2, ofW_words l⟩
theorem outS_words (a : Rq) (l : List UInt8) : Words (outS a l).1.words := by
  unfold outS
  split
  · rename_i hr
    cases h : readS a l with
    | none => intro x hx; cases hx
    | some x => exact (read_sound a hr l x h).2.2
  · intro x hx; cases hx
theorem primR_ok {args : List DV} {r : DV} {H H' : Heap} (h : primRead args H = some (r, H')) : H' = H ∧ ∀ fl, CallOk Try.prog 75 args H fl r H := by
  unfold primRead at h
  split at h
  · rename_i ra s bs t H0
    obtain ⟨a, ha, h⟩ := Option.bind_eq_some_iff.1 h
    obtain ⟨l, hl, h⟩ := Option.bind_eq_some_iff.1 h
    split at h
    · rename_i hc
      obtain ⟨c1, c2, c3, c4⟩ := hc
      simp only [Option.some.injEq, Prod.mk.injEq] at h
      obtain ⟨rfl, rfl⟩ := h
      refine ⟨rfl, fun fl B G w vs hB hH hr hfl => ⟨?_, fun _ _ => rfl, Nat.le_refl _⟩⟩
      simp only [RepL] at hr
      obtain ⟨va, _, e1, hva, vl, _, rfl, hvl, rfl⟩ := hr
      have hv : vs = #[va, vl] := by apply Array.ext'; simpa using e1
      subst hv
      obtain ⟨vw, vb, rfl, w1, w2, w3⟩ := dRq_rep ha hva
      have w4 := list_rd dB_some (fun a => rfl) hvl hl
      refine (Read_w w a ⟨w3, c1, c2, c3, c4⟩ vw vb vl l w1 w2 w4).mono fun e w' ⟨hb, v1, v2, v3, he, o1, o2, o3⟩ => ⟨_, G, he, Keep.below G hb, hH.below hb, ?_⟩
      have e1 := mkl_eW (toW (outS a l).1.words) .sh
      rw [ofW_toW _ (outS_words a l)] at e1
      have r1 : Rep (ImmB B G) w' G (LV 1 Bo (outS a l).1.bits .sh) v1 := own_rep (e' := eT) (fun _ => rfl) (fun _ => ⟨rfl, rfl⟩) hB hH o1
      have r2 : Rep (ImmB B G) w' G (LV 1 (I .u16) (outS a l).1.words .sh) v2 := by rw [← e1]; exact own_rep (fun _ => rfl) (fun _ => ⟨rfl, rfl⟩) hB hH o2
      have r3 : Rep (ImmB B G) w' G (LV 1 Sg (outS a l).1.texts .sh) v3 := own_rep (enc := encS) (e' := Sg) (fun _ => rfl) (fun _ => ⟨rfl, rfl⟩) hB hH o3
      unfold anE anW
      simp only [Rep, RepL]
      exact ⟨_, rfl, _, _, rfl, ⟨_, rfl, _, _, rfl, rfl, _, _, rfl, r1, _, _, rfl, r2, _, _, rfl, r3, rfl⟩, _, _, rfl, rfl, rfl⟩
    · cases h
  · cases h
def ENV2 : Env where
  md := ENV.md
  ks := ENV.ks
  prim f := bif f == 75 then some primRead else ENV.prim f
theorem ele2 : ELe ENV ENV2 := by
  refine ⟨rfl, rfl, fun f g hf args H r h => ?_, fun f hf => ?_⟩
  · by_cases c : f = 75
    · subst c
      have e : ENV.prim 75 = some primNo := by kernel_rfl
      rw [e] at hf
      obtain rfl := Option.some.inj hf
      cases h
    · have c' : (f == 75) = false := by simpa using c
      exact ⟨g, by unfold ENV2; simp only [c', cond_false]; exact hf, h⟩
  · by_cases c : f = 75
    · subst c
      have e : ENV.prim 75 = some primNo := by kernel_rfl
      rw [e] at hf
      cases hf
    · have c' : (f == 75) = false := by simpa using c
      unfold ENV2
      simp only [c', cond_false]
      exact hf
theorem primSound2 : PrimSound Try.prog ENV2 := by
  intro f g args H d H' hf h
  unfold ENV2 at hf
  by_cases c : f = 75
  · subst c
    simp only [BEq.rfl, cond_true, Option.some.injEq] at hf
    subst hf
    obtain ⟨rfl, h⟩ := primR_ok h
    exact ⟨⟨_, Try.func75, rfl⟩, h, fun _ h => h⟩
  · have c' : (f == 75) = false := by simpa using c
    simp only [c', cond_false] at hf
    exact primSound f g args H d H' hf h
noncomputable def cP2 (n : Nat) (f : FuncId) (ti : Bool) (args : List DV) : Option DV := callP (callG Try.prog ENV2 n) f ti args
theorem cP_up {n : Nat} {f : FuncId} {ti : Bool} {args : List DV} {r : DV} (h : cP n f ti args = some r) : cP2 n f ti args = some r := callP_mono (callG_mono Try.prog ele2 n) f ti args r h
theorem cP2_of {n f : Nat} {ti : Bool} {args args' : List DV} {H' : Heap} {r r' : DV} (h1 : mapO argEl args = some args') (h2 : callG Try.prog ENV2 n f args' [] 0 = some (r, H')) (h3 : outD ti H' r = some r') : cP2 n f ti args = some r' := by
  unfold cP2 callP
  rw [h1, bi_some, h2, bi_some]
  exact h3
noncomputable def cO2 (n : Nat) (f : FuncId) (args : List DV) (H : Heap) : Option DV := callO (callG Try.prog ENV2 n) f args H
noncomputable def cW2 (n : Nat) (f : FuncId) (args : List DV) (H : Heap) (fl : Nat) : R := callW (callG Try.prog ENV2 n) f args H fl
noncomputable def cK2 (n : Nat) (f : FuncId) (args : List DV) (H : Heap) (fl : Nat) : R := callG Try.prog ENV2 n f args H fl
noncomputable def cV2 (n fl : Nat) (f : DV) (args : List DV) (H : Heap) : R := callVG (callG Try.prog ENV2 n) ENV2.md fl f args H
theorem cW2_of {n f : Nat} {args : List DV} {H H' H2 : Heap} {fl : Nat} {r r' : DV} (h1 : callG Try.prog ENV2 n f args H fl = some (r, H')) (h2 : oldD H.length H' r = some r') (h3 : cutH H.length H' = some H2) : cW2 n f args H fl = some (r', H2) := by
  unfold cW2 callW
  rw [h1, bi_some, h2, bi_some, h3, bi_some]
theorem cO2_of {n f : Nat} {args : List DV} {H H' : Heap} {r r' : DV} (h1 : callG Try.prog ENV2 n f args H H.length = some (r, H')) (h2 : oldD H.length H' r = some r') : cO2 n f args H = some r' := by
  unfold cO2 callO
  rw [h1, bi_some]
  exact h2
theorem law_call2 {n f : Nat} {args : List DV} {H' : Heap} (h : callG Try.prog ENV2 n f args [] 0 = some (.flat (.bool true), H')) {w : World} {vs : Array Value} (hr : RepL Any w [] args vs.toList) :
    Calls Try.prog f vs w fun e w' => e = .returned (.bool true) ∧ Below w.heap.size w w' :=
  (pure_call mixed noOwn primSound2 (callG_ok _ _ _ _ _ _ _ _ h) hr).mono fun e w' ⟨V, he, hb, I, G, hV⟩ => by
    simp only [Rep] at hV
    subst hV
    exact ⟨he, hb⟩
/-- Read, by its contract -/
theorem Read_c (n : Nat) (hn : 1 ≤ n) (a : Rq) (oa : RqOk a) (b : List Int) (hb : Bytes b) (t1 t2 t : Tag) : cP2 n 75 false [rqE a t1 t2, LV 1 (I .u8) b t] = some (.tup [anE (ansReadV a b).1 .sh .sh .sh, I .i64 (ansReadV a b).2]) := by
  obtain ⟨n, rfl⟩ : ∃ m, n = m + 1 := ⟨n - 1, by omega⟩
  have hp : ENV2.prim 75 = some primRead := by kernel_rfl
  have e : outS a (toB b) = ansReadV a b := by
    unfold outS
    by_cases hr : RightP a
    · rw [if_pos hr]
      have := read_is a hr (toB b) _ _ rfl
      rw [ofB_toB b hb] at this
      exact this.symm
    · rw [if_neg hr]
      unfold ansReadV
      rw [if_neg hr]
  have hr : primRead [rqE a .sh .sh, LV 1 (I .u8) b .sh] [] = some (.tup [anE (outS a (toB b)).1 .sh .sh .sh, .flat (.int .i64 (outS a (toB b)).2)], []) := by
    obtain ⟨s, e1, _⟩ := LV_list 1 (I .u8) b .sh
    obtain ⟨s1, e2, _⟩ := LV_list 1 (I .u16) a.words .sh
    obtain ⟨s2, e3, _⟩ := LV_list 1 Bo a.bits .sh
    have hd : dRq (rqE a .sh .sh) = some a := by
      unfold rqE
      rw [e2, e3]
      unfold dRq
      simp only
      rw [mapO_dW _ oa.w, mapO_dT, Option.bind_some, Option.map_some, ofW_toW _ oa.w]
    rw [e1]
    unfold primRead
    simp only
    rw [hd, Option.bind_some, mapO_dB b hb, Option.bind_some, if_pos ⟨oa.a, oa.o, oa.lw, oa.lb⟩]
  rw [e] at hr
  refine cP2_of (args' := [rqE a .sh .sh, LV 1 (I .u8) b .sh]) (H' := []) (r := .tup [anE (ansReadV a b).1 .sh .sh .sh, I .i64 (ansReadV a b).2]) (by simp [argEl_eq, rqE]) ?_ (by simp [anE])
  rw [callG_eq]
  unfold bodyG
  rw [hp]
  exact hr
end Go.Proofs.Ytcpgmbpndpcmdaa

/- Go functions as Lean functions on deep values; printed by a program of mine. -/
namespace Go.Proofs.Ytcpgmbpndpcmdaa
open Go
set_option maxRecDepth 100000
set_option linter.unusedVariables false
/-! triune/master.within -/
noncomputable def s_master_within (n : Nat) (H : Heap) (fl : Nat) (a0 a1 : DV) : R :=
  bi (geK .i64 a0 (I .i64 1)) fun d0 =>
  bi (wantF d0 true (some a0)) fun d1 =>
  bi (wantF d0 true (some a1)) fun d2 =>
  bi (wantF d0 true (leK .i64 d1 d2)) fun d3 =>
  bi (pickD d0 d3 (Bo false)) fun d4 =>
  some (d4, H)
theorem s_master_within_eq (n : Nat) (H : Heap) (fl : Nat) (a0 a1 : DV) : callG Try.prog ENV2 (n + 1) 20 [a0, a1] H fl = s_master_within n H fl a0 a1 := by kernel_rfl

/-! triune/master.Right -/
noncomputable def s_master_Right (n : Nat) (H : Heap) (fl : Nat) (a0 : DV) : R :=
  bi (allocG 23 a0 (List.length H) (H ++ [.hole])) fun h0 =>
  bi (loadG false 1 (.ptr (List.length H) 0) h0) fun d1 =>
  bi (geK .u8 d1 (I .u8 1)) fun d2 =>
  bi (wantF d2 true (some (.ptr (List.length H) 0))) fun d3 =>
  bi (wantF d2 true (loadG false 1 d3 h0)) fun d4 =>
  bi (wantF d2 true (leK .u8 d4 (I .u8 247))) fun d5 =>
  bi (pickD d2 d5 (Bo false)) fun d6 =>
  bi (wantF d6 true (some (.ptr (List.length H) 1))) fun d7 =>
  bi (wantF d6 true (loadG false 1 d7 h0)) fun d8 =>
  bi (wantF d6 true (cP2 n 20 false [d8, (I .i64 20)])) fun d9 =>
  bi (pickD d6 d9 (Bo false)) fun d10 =>
  bi (wantF d10 true (some (.ptr (List.length H) 2))) fun d11 =>
  bi (wantF d10 true (loadG false 1 d11 h0)) fun d12 =>
  bi (wantF d10 true (cP2 n 20 false [d12, (I .i64 1000)])) fun d13 =>
  bi (pickD d10 d13 (Bo false)) fun d14 =>
  bi (wantF d14 true (some (.ptr (List.length H) 3))) fun d15 =>
  bi (wantF d14 true (loadG false 1 d15 h0)) fun d16 =>
  bi (wantF d14 true (cP2 n 20 false [d16, (I .i64 5)])) fun d17 =>
  bi (pickD d14 d17 (Bo false)) fun d18 =>
  some (d18, h0)
theorem s_master_Right_eq (n : Nat) (H : Heap) (fl : Nat) (a0 : DV) : callG Try.prog ENV2 (n + 1) 7 [a0] H fl = s_master_Right n H fl a0 := by kernel_rfl

/-! triune/master.New -/
noncomputable def s_master_New (n : Nat) (H : Heap) (fl : Nat) (a0 : DV) : R :=
  bi (allocG 23 a0 (List.length H) (H ++ [.hole])) fun h0 =>
  bi (loadG true 4 (.ptr (List.length H) 0) h0) fun d1 =>
  bi (cP2 n 7 false [d1]) fun d2 =>
  bi (notD d2) fun d3 =>
  condR d3 (
  some ((.tup [(.flat (.pointer none)), (I .i64 1)]), h0)) (
  bi (loadG true 4 (.ptr (List.length H) 0) (h0 ++ [.hole])) fun d4 =>
  bi (loadG false 1 (.ptr (List.length H) 1) (h0 ++ [.hole])) fun d5 =>
  bi (buildS (.agg [(I .u8 0), (I .i64 0), (I .i64 0), (I .i64 0), (I .i64 0), (I .i64 0), (I .i64 0), (I .i64 0), (I .i64 0), (I .i64 0), (I .i64 0), (I .i64 0), (.list 0 [] .ti), (.list 0 [] .ti), (I .u16 0), (I .u16 0), (.list 0 [] .ti)]) [(0, 4), (4, 1), (5, 1), (6, 1), (7, 1), (8, 8), (16, 1)] [(0, d4), (2, d5)]) fun d6 =>
  bi (allocG 62 d6 (List.length h0) (h0 ++ [.hole])) fun h7 =>
  some ((.tup [(.ptr (List.length h0) 0), (I .i64 0)]), h7))
theorem s_master_New_eq (n : Nat) (H : Heap) (fl : Nat) (a0 : DV) : callG Try.prog ENV2 (n + 1) 6 [a0] H fl = s_master_New n H fl a0 := by kernel_rfl

/-! (*triune/master.Master).Start -/
noncomputable def s___master_Master__Start (n : Nat) (H : Heap) (fl : Nat) (a0 a1 : DV) : R :=
  bi (allocG 28 a1 (List.length H) (H ++ [.hole])) fun h0 =>
  bi (cO2 n 15 [a0] h0) fun d1 =>
  condR d1 (
  some ((I .i64 8), h0)) (
   bi (loadG true 8 (.ptr (List.length H) 0) h0) fun d2 =>
   bi (cP2 n 21 false [d2]) fun d3 =>
   bi (notD d3) fun d4 =>
   condR d4 (
  some ((I .i64 2), h0)) (
  bi (loadG false 1 (.ptr (List.length H) 4) h0) fun d5 =>
  bi (cP2 n 22 false [d5]) fun d6 =>
  bi (loadG false 1 (.ptr (List.length H) 5) h0) fun d7 =>
  bi (cP2 n 23 false [d7]) fun d8 =>
  bi (storeG 1 (.ptr (List.length H) 4) d6 h0 fl) fun h9 =>
  bi (storeG 1 (.ptr (List.length H) 5) d8 h9 fl) fun h10 =>
  bi (loadG true 8 (.ptr (List.length H) 0) h10) fun d11 =>
  bi (nilD a0) fun d12 =>
  bi (fieldD 8 8 d12) fun d13 =>
  bi (storeG 8 d13 d11 h10 fl) fun h14 =>
  bi (nilD a0) fun d15 =>
  bi (fieldD 7 1 d15) fun d16 =>
  bi (storeG 1 d16 (I .i64 0) h14 fl) fun h17 =>
  bi (cW2 n 24 [a0, (I .i64 1)] h17 fl) fun p18 =>
  some ((I .i64 0), p18.2)))
theorem s___master_Master__Start_eq (n : Nat) (H : Heap) (fl : Nat) (a0 a1 : DV) : callG Try.prog ENV2 (n + 1) 9 [a0, a1] H fl = s___master_Master__Start n H fl a0 a1 := by kernel_rfl

/-! (*triune/master.Master).Busy -/
noncomputable def s___master_Master__Busy (n : Nat) (H : Heap) (fl : Nat) (a0 : DV) : R :=
  bi (nilD a0) fun d0 =>
  bi (fieldD 4 1 d0) fun d1 =>
  bi (loadG false 1 d1 H) fun d2 =>
  bi (neK .i64 d2 (I .i64 0)) fun d3 =>
  some (d3, H)
theorem s___master_Master__Busy_eq (n : Nat) (H : Heap) (fl : Nat) (a0 : DV) : callG Try.prog ENV2 (n + 1) 15 [a0] H fl = s___master_Master__Busy n H fl a0 := by kernel_rfl

/-! (*triune/master.Master).turn -/
noncomputable def s___master_Master__turn (n : Nat) (H : Heap) (fl : Nat) (a0 a1 : DV) : R :=
  bi (nilD a0) fun d0 =>
  bi (fieldD 4 1 d0) fun d1 =>
  bi (storeG 1 d1 a1 H fl) fun h2 =>
  bi (nilD a0) fun d3 =>
  bi (fieldD 6 1 d3) fun d4 =>
  bi (storeG 1 d4 (I .i64 0) h2 fl) fun h5 =>
  bi (nilD a0) fun d6 =>
  bi (fieldD 16 1 d6) fun d7 =>
  bi (storeG 1 d7 (.list 0 [] .ti) h5 fl) fun h8 =>
  some ((.tup []), h8)
theorem s___master_Master__turn_eq (n : Nat) (H : Heap) (fl : Nat) (a0 a1 : DV) : callG Try.prog ENV2 (n + 1) 24 [a0, a1] H fl = s___master_Master__turn n H fl a0 a1 := by kernel_rfl

/-! (*triune/master.Master).Take -/
noncomputable def s___master_Master__Take (n : Nat) (H : Heap) (fl : Nat) (a0 a1 : DV) : R :=
  bi (lenD a1) fun d0 =>
  bi (eqK .i64 d0 (I .i64 0)) fun d1 =>
  condR d1 (
  some ((.tup []), H)) (
  bi (nilD a0) fun d2 =>
  bi (fieldD 5 1 d2) fun d3 =>
  bi (storeG 1 d3 (I .i64 0) H fl) fun h4 =>
  bi (nilD a0) fun d5 =>
  bi (fieldD 4 1 d5) fun d6 =>
  bi (loadG false 1 d6 h4) fun d7 =>
  bi (eqK .i64 d7 (I .i64 2)) fun d8 =>
  condR d8 (
   bi (nilD a0) fun d9 =>
   bi (fieldD 16 1 d9) fun d10 =>
   bi (loadG false 1 d10 h4) fun d11 =>
   bi (lenD a1) fun d12 =>
   bi (nilD a0) fun d13 =>
   bi (fieldD 16 1 d13) fun d14 =>
   bi (loadG false 1 d14 h4) fun d15 =>
   bi (lenD d15) fun d16 =>
   bi (subK .i64 (I .i64 300) d16) fun d17 =>
   bi (minI d12 d17) fun d18 =>
   bi (slX 1 a1 none (some d18) none) fun d19 =>
   bi (appG 5 false 1 1 d11 d19 h4 fl) fun p20 =>
   bi (nilD a0) fun d21 =>
   bi (fieldD 16 1 d21) fun d22 =>
   bi (storeG 1 d22 p20.1 p20.2 fl) fun h23 =>
  some ((.tup []), h23)) (
  some ((.tup []), h4)))
theorem s___master_Master__Take_eq (n : Nat) (H : Heap) (fl : Nat) (a0 a1 : DV) : callG Try.prog ENV2 (n + 1) 12 [a0, a1] H fl = s___master_Master__Take n H fl a0 a1 := by kernel_rfl

/-! (*triune/master.Master).failed -/
noncomputable def s___master_Master__failed (n : Nat) (H : Heap) (fl : Nat) (a0 a1 : DV) : R :=
  bi (allocG 50 (.agg [(I .i64 0), (I .i64 0), (.list 0 [] .ti), (.list 0 [] .ti), (.list 0 [] .ti)]) (List.length H) (H ++ [.hole])) fun h0 =>
  bi (nilD a0) fun d1 =>
  bi (fieldD 7 1 d1) fun d2 =>
  bi (loadG false 1 d2 h0) fun d3 =>
  bi (nilD a0) fun d4 =>
  bi (fieldD 0 4 d4) fun d5 =>
  bi (fieldD 3 1 d5) fun d6 =>
  bi (loadG false 1 d6 h0) fun d7 =>
  bi (ltK .i64 d3 d7) fun d8 =>
  condR d8 (
   bi (cW2 n 24 [a0, (I .i64 1)] h0 fl) fun p9 =>
   bi (buildS (.agg [(I .i64 0), (I .i64 0), (.list 0 [] .ti), (.list 0 [] .ti), (.list 0 [] .ti)]) [(0, 1), (1, 4)] []) fun d10 =>
   bi (storeG 5 (.ptr (List.length H) 0) d10 p9.2 fl) fun h11 =>
  bi (cellR true 5 (.ptr (List.length H) 0) h11) fun r0 =>
  some (r0, h11)) (
  bi (cW2 n 24 [a0, (I .i64 0)] h0 fl) fun p12 =>
  bi (buildS (.agg [(I .i64 0), (I .i64 0), (.list 0 [] .ti), (.list 0 [] .ti), (.list 0 [] .ti)]) [(0, 1), (1, 4)] [(0, a1)]) fun d13 =>
  bi (storeG 5 (.ptr (List.length H) 0) d13 p12.2 fl) fun h14 =>
  bi (cellR true 5 (.ptr (List.length H) 0) h14) fun r0 =>
  some (r0, h14))
theorem s___master_Master__failed_eq (n : Nat) (H : Heap) (fl : Nat) (a0 a1 : DV) : callG Try.prog ENV2 (n + 1) 51 [a0, a1] H fl = s___master_Master__failed n H fl a0 a1 := by kernel_rfl

/-! (*triune/master.Master).rest -/
noncomputable def s___master_Master__rest (n : Nat) (H : Heap) (fl : Nat) (a0 : DV) : R :=
  bi (allocG 50 (.agg [(I .i64 0), (I .i64 0), (.list 0 [] .ti), (.list 0 [] .ti), (.list 0 [] .ti)]) (List.length H) (H ++ [.hole])) fun h0 =>
  bi (buildS (.agg [(I .i64 0), (I .i64 0), (.list 0 [] .ti), (.list 0 [] .ti), (.list 0 [] .ti)]) [(0, 1), (1, 4)] []) fun d1 =>
  bi (storeG 5 (.ptr (List.length H) 0) d1 h0 fl) fun h2 =>
  bi (cellR true 5 (.ptr (List.length H) 0) h2) fun r1 =>
  some ((.tup [(.list 0 [] .ti), r1]), h2)
theorem s___master_Master__rest_eq (n : Nat) (H : Heap) (fl : Nat) (a0 : DV) : callG Try.prog ENV2 (n + 1) 29 [a0] H fl = s___master_Master__rest n H fl a0 := by kernel_rfl

/-! (*triune/master.Master).send -/
noncomputable def s___master_Master__send (n : Nat) (H : Heap) (fl : Nat) (a0 : DV) : R :=
  bi (allocG 50 (.agg [(I .i64 0), (I .i64 0), (.list 0 [] .ti), (.list 0 [] .ti), (.list 0 [] .ti)]) (List.length H) (H ++ [.hole])) fun h0 =>
  bi (nilD a0) fun d1 =>
  bi (fieldD 5 1 d1) fun d2 =>
  bi (loadG false 1 d2 h0) fun d3 =>
  bi (nilD a0) fun d4 =>
  bi (fieldD 0 4 d4) fun d5 =>
  bi (fieldD 1 1 d5) fun d6 =>
  bi (loadG false 1 d6 h0) fun d7 =>
  bi (ltK .i64 d3 d7) fun d8 =>
  bi (wantF d8 true (some a0)) fun d9 =>
  bi (wantF d8 true (nilD d9)) fun d10 =>
  bi (wantF d8 true (fieldD 6 1 d10)) fun d11 =>
  bi (wantF d8 true (loadG false 1 d11 h0)) fun d12 =>
  bi (wantF d8 true (some a0)) fun d13 =>
  bi (wantF d8 true (nilD d13)) fun d14 =>
  bi (wantF d8 true (fieldD 0 4 d14)) fun d15 =>
  bi (wantF d8 true (fieldD 2 1 d15)) fun d16 =>
  bi (wantF d8 true (loadG false 1 d16 h0)) fun d17 =>
  bi (wantF d8 true (ltK .i64 d12 d17)) fun d18 =>
  bi (pickD d8 d18 (Bo false)) fun d19 =>
  condR d19 (
   bi (cO2 n 29 [a0] h0) fun d20 =>
   bi (extD 0 d20) fun d21 =>
   bi (extD 1 d20) fun d22 =>
   bi (storeG 5 (.ptr (List.length H) 0) d22 h0 fl) fun h23 =>
  bi (cellR true 5 (.ptr (List.length H) 0) h23) fun r1 =>
  some ((.tup [d21, r1]), h23)) (
  bi (nilD a0) fun d24 =>
  bi (fieldD 8 8 d24) fun d25 =>
  bi (loadG true 8 d25 h0) fun d26 =>
  bi (cP2 n 10 false [d26]) fun d27 =>
  bi (extD 0 d27) fun d28 =>
  bi (extD 1 d27) fun d29 =>
  bi (nilD a0) fun d30 =>
  bi (fieldD 0 4 d30) fun d31 =>
  bi (fieldD 0 1 d31) fun d32 =>
  bi (loadG false 1 d32 h0) fun d33 =>
  bi (buildS (.agg [(I .u8 0), (.list 0 [] .ti)]) [(0, 1), (1, 1)] [(0, d33), (1, d28)]) fun d34 =>
  bi (cP2 n 11 false [d34]) fun d35 =>
  bi (extD 0 d35) fun d36 =>
  bi (extD 1 d35) fun d37 =>
  bi (cW2 n 24 [a0, (I .i64 2)] h0 fl) fun p38 =>
  bi (nilD a0) fun d39 =>
  bi (fieldD 5 1 d39) fun d40 =>
  bi (storeG 1 d40 (I .i64 0) p38.2 fl) fun h41 =>
  bi (nilD a0) fun d42 =>
  bi (fieldD 7 1 d42) fun d43 =>
  bi (loadG false 1 d43 h41) fun d44 =>
  bi (addK .i64 d44 (I .i64 1)) fun d45 =>
  bi (nilD a0) fun d46 =>
  bi (fieldD 7 1 d46) fun d47 =>
  bi (storeG 1 d47 d45 h41 fl) fun h48 =>
  bi (buildS (.agg [(I .i64 0), (I .i64 0), (.list 0 [] .ti), (.list 0 [] .ti), (.list 0 [] .ti)]) [(0, 1), (1, 4)] []) fun d49 =>
  bi (storeG 5 (.ptr (List.length H) 0) d49 h48 fl) fun h50 =>
  bi (cellR true 5 (.ptr (List.length H) 0) h50) fun r1 =>
  some ((.tup [d36, r1]), h50))
theorem s___master_Master__send_eq (n : Nat) (H : Heap) (fl : Nat) (a0 : DV) : callG Try.prog ENV2 (n + 1) 30 [a0] H fl = s___master_Master__send n H fl a0 := by kernel_rfl

/-! (*triune/master.Master).told -/
noncomputable def s___master_Master__told (n : Nat) (H : Heap) (fl : Nat) (a0 : DV) : R :=
  bi (allocG 48 (.agg [(I .i64 0), (.list 0 [] .ti), (.list 0 [] .ti), (.list 0 [] .ti)]) (List.length H) (H ++ [.hole])) fun h0 =>
  bi (nilD a0) fun d1 =>
  bi (fieldD 16 1 d1) fun d2 =>
  bi (loadG false 1 d2 (h0 ++ [.hole])) fun d3 =>
  bi (cP2 n 74 false [d3]) fun d4 =>
  bi (extD 0 d4) fun d5 =>
  bi (extD 1 d4) fun d6 =>
  bi (allocG 44 (.agg [(I .u8 0), (.list 0 [] .ti)]) (List.length h0) (h0 ++ [.hole])) fun h7 =>
  bi (storeG 2 (.ptr (List.length h0) 0) d5 h7 fl) fun h8 =>
  bi (neK .i64 d6 (I .i64 0)) fun d9 =>
  bi (wantF d9 false (some (.ptr (List.length h0) 0))) fun d10 =>
  bi (wantF d9 false (loadG false 1 d10 h8)) fun d11 =>
  bi (wantF d9 false (some a0)) fun d12 =>
  bi (wantF d9 false (nilD d12)) fun d13 =>
  bi (wantF d9 false (fieldD 0 4 d13)) fun d14 =>
  bi (wantF d9 false (fieldD 0 1 d14)) fun d15 =>
  bi (wantF d9 false (loadG false 1 d15 h8)) fun d16 =>
  bi (wantF d9 false (neK .u8 d11 d16)) fun d17 =>
  bi (pickD d9 (Bo true) d17) fun d18 =>
  condR d18 (
   bi (buildS (.agg [(I .i64 0), (.list 0 [] .ti), (.list 0 [] .ti), (.list 0 [] .ti)]) [(0, 1), (1, 1), (2, 1), (3, 1)] []) fun d19 =>
   bi (storeG 4 (.ptr (List.length H) 0) d19 h8 fl) fun h20 =>
  bi (cellR true 4 (.ptr (List.length H) 0) h20) fun r0 =>
  some ((.tup [r0, (Bo false)]), h20)) (
  bi (nilD a0) fun d21 =>
  bi (fieldD 8 8 d21) fun d22 =>
  bi (loadG true 8 d22 (h8 ++ [.hole])) fun d23 =>
  bi (loadG false 1 (.ptr (List.length h0) 1) (h8 ++ [.hole])) fun d24 =>
  bi (cP2 n 75 false [d23, d24]) fun d25 =>
  bi (extD 0 d25) fun d26 =>
  bi (extD 1 d25) fun d27 =>
  bi (allocG 48 (.agg [(I .i64 0), (.list 0 [] .ti), (.list 0 [] .ti), (.list 0 [] .ti)]) (List.length h8) (h8 ++ [.hole])) fun h28 =>
  bi (storeG 4 (.ptr (List.length h8) 0) d26 h28 fl) fun h29 =>
  bi (loadG true 4 (.ptr (List.length h8) 0) h29) fun d30 =>
  bi (eqK .i64 d27 (I .i64 0)) fun d31 =>
  bi (storeG 4 (.ptr (List.length H) 0) d30 h29 fl) fun h32 =>
  bi (cellR true 4 (.ptr (List.length H) 0) h32) fun r0 =>
  some ((.tup [r0, d31]), h32))
theorem s___master_Master__told_eq (n : Nat) (H : Heap) (fl : Nat) (a0 : DV) : callG Try.prog ENV2 (n + 1) 50 [a0] H fl = s___master_Master__told n H fl a0 := by kernel_rfl

/-! (*triune/master.Master).wait -/
noncomputable def s___master_Master__wait (n : Nat) (H : Heap) (fl : Nat) (a0 : DV) : R :=
  bi (allocG 50 (.agg [(I .i64 0), (I .i64 0), (.list 0 [] .ti), (.list 0 [] .ti), (.list 0 [] .ti)]) (List.length H) (H ++ [.hole])) fun h0 =>
  bi (nilD a0) fun d1 =>
  bi (fieldD 16 1 d1) fun d2 =>
  bi (loadG false 1 d2 h0) fun d3 =>
  bi (lenD d3) fun d4 =>
  bi (gtK .i64 d4 (I .i64 0)) fun d5 =>
  bi (wantF d5 true (some a0)) fun d6 =>
  bi (wantF d5 true (nilD d6)) fun d7 =>
  bi (wantF d5 true (fieldD 5 1 d7)) fun d8 =>
  bi (wantF d5 true (loadG false 1 d8 h0)) fun d9 =>
  bi (wantF d5 true (some a0)) fun d10 =>
  bi (wantF d5 true (nilD d10)) fun d11 =>
  bi (wantF d5 true (fieldD 0 4 d11)) fun d12 =>
  bi (wantF d5 true (fieldD 1 1 d12)) fun d13 =>
  bi (wantF d5 true (loadG false 1 d13 h0)) fun d14 =>
  bi (wantF d5 true (geK .i64 d9 d14)) fun d15 =>
  bi (pickD d5 d15 (Bo false)) fun d16 =>
  condR d16 (
   bi (cO2 n 50 [a0] (h0 ++ [.hole])) fun d17 =>
   bi (extD 0 d17) fun d18 =>
   bi (extD 1 d17) fun d19 =>
   bi (allocG 48 (.agg [(I .i64 0), (.list 0 [] .ti), (.list 0 [] .ti), (.list 0 [] .ti)]) (List.length h0) (h0 ++ [.hole])) fun h20 =>
   bi (storeG 4 (.ptr (List.length h0) 0) d18 h20 fl) fun h21 =>
   bi (notD d19) fun d22 =>
   condR d22 (
    bi (cW2 n 51 [a0, (I .i64 3)] h21 fl) fun p23 =>
    bi (storeG 5 (.ptr (List.length H) 0) p23.1 p23.2 fl) fun h24 =>
  bi (cellR true 5 (.ptr (List.length H) 0) h24) fun r1 =>
  some ((.tup [(.list 0 [] .ti), r1]), h24)) (
   bi (cW2 n 24 [a0, (I .i64 0)] h21 fl) fun p25 =>
   bi (loadG true 4 (.ptr (List.length h0) 0) p25.2) fun d26 =>
   bi (buildS (.agg [(I .i64 0), (I .i64 0), (.list 0 [] .ti), (.list 0 [] .ti), (.list 0 [] .ti)]) [(0, 1), (1, 4)] [(0, (I .i64 1)), (1, d26)]) fun d27 =>
   bi (storeG 5 (.ptr (List.length H) 0) d27 p25.2 fl) fun h28 =>
  bi (cellR true 5 (.ptr (List.length H) 0) h28) fun r1 =>
  some ((.tup [(.list 0 [] .ti), r1]), h28))) (
   bi (wantF d5 true (some a0)) fun d29 =>
   bi (wantF d5 true (nilD d29)) fun d30 =>
   bi (wantF d5 true (fieldD 6 1 d30)) fun d31 =>
   bi (wantF d5 true (loadG false 1 d31 h0)) fun d32 =>
   bi (wantF d5 true (some a0)) fun d33 =>
   bi (wantF d5 true (nilD d33)) fun d34 =>
   bi (wantF d5 true (fieldD 0 4 d34)) fun d35 =>
   bi (wantF d5 true (fieldD 2 1 d35)) fun d36 =>
   bi (wantF d5 true (loadG false 1 d36 h0)) fun d37 =>
   bi (wantF d5 true (mulK .i64 (I .i64 2) d37)) fun d38 =>
   bi (wantF d5 true (geK .i64 d32 d38)) fun d39 =>
   bi (pickD d5 d39 (Bo false)) fun d40 =>
   condR d40 (
    bi (cW2 n 51 [a0, (I .i64 3)] h0 fl) fun p41 =>
    bi (storeG 5 (.ptr (List.length H) 0) p41.1 p41.2 fl) fun h42 =>
  bi (cellR true 5 (.ptr (List.length H) 0) h42) fun r1 =>
  some ((.tup [(.list 0 [] .ti), r1]), h42)) (
    bi (notD d5) fun d43 =>
    bi (wantF d43 true (some a0)) fun d44 =>
    bi (wantF d43 true (nilD d44)) fun d45 =>
    bi (wantF d43 true (fieldD 6 1 d45)) fun d46 =>
    bi (wantF d43 true (loadG false 1 d46 h0)) fun d47 =>
    bi (wantF d43 true (some a0)) fun d48 =>
    bi (wantF d43 true (nilD d48)) fun d49 =>
    bi (wantF d43 true (fieldD 0 4 d49)) fun d50 =>
    bi (wantF d43 true (fieldD 2 1 d50)) fun d51 =>
    bi (wantF d43 true (loadG false 1 d51 h0)) fun d52 =>
    bi (wantF d43 true (geK .i64 d47 d52)) fun d53 =>
    bi (pickD d43 d53 (Bo false)) fun d54 =>
    condR d54 (
     bi (cW2 n 51 [a0, (I .i64 2)] h0 fl) fun p55 =>
     bi (storeG 5 (.ptr (List.length H) 0) p55.1 p55.2 fl) fun h56 =>
  bi (cellR true 5 (.ptr (List.length H) 0) h56) fun r1 =>
  some ((.tup [(.list 0 [] .ti), r1]), h56)) (
  bi (cO2 n 29 [a0] h0) fun d57 =>
  bi (extD 0 d57) fun d58 =>
  bi (extD 1 d57) fun d59 =>
  bi (storeG 5 (.ptr (List.length H) 0) d59 h0 fl) fun h60 =>
  bi (cellR true 5 (.ptr (List.length H) 0) h60) fun r1 =>
  some ((.tup [d58, r1]), h60))))
theorem s___master_Master__wait_eq (n : Nat) (H : Heap) (fl : Nat) (a0 : DV) : callG Try.prog ENV2 (n + 1) 31 [a0] H fl = s___master_Master__wait n H fl a0 := by kernel_rfl

/-! (*triune/master.Master).Tick -/
noncomputable def s___master_Master__Tick (n : Nat) (H : Heap) (fl : Nat) (a0 : DV) : R :=
  bi (allocG 50 (.agg [(I .i64 0), (I .i64 0), (.list 0 [] .ti), (.list 0 [] .ti), (.list 0 [] .ti)]) (List.length H) (H ++ [.hole])) fun h0 =>
  bi (nilD a0) fun d1 =>
  bi (fieldD 5 1 d1) fun d2 =>
  bi (loadG false 1 d2 h0) fun d3 =>
  bi (addK .i64 d3 (I .i64 1)) fun d4 =>
  bi (minI d4 (I .i64 1048576)) fun d5 =>
  bi (nilD a0) fun d6 =>
  bi (fieldD 5 1 d6) fun d7 =>
  bi (storeG 1 d7 d5 h0 fl) fun h8 =>
  bi (nilD a0) fun d9 =>
  bi (fieldD 6 1 d9) fun d10 =>
  bi (loadG false 1 d10 h8) fun d11 =>
  bi (addK .i64 d11 (I .i64 1)) fun d12 =>
  bi (nilD a0) fun d13 =>
  bi (fieldD 6 1 d13) fun d14 =>
  bi (storeG 1 d14 d12 h8 fl) fun h15 =>
  bi (buildA (.agg [(.flat .nilFunc), (.flat .nilFunc), (.flat .nilFunc)]) 1 [(0, (.clo (.func 29) [a0] [])), (1, (.clo (.func 30) [a0] [])), (2, (.clo (.func 31) [a0] []))]) fun d16 =>
  bi (nilD a0) fun d17 =>
  bi (fieldD 4 1 d17) fun d18 =>
  bi (loadG false 1 d18 h15) fun d19 =>
  bi (idxV false 1 3 d16 d19) fun d20 =>
  bi (cV2 n fl d20 [] h15) fun p21 =>
  bi (extD 0 p21.1) fun d22 =>
  bi (extD 1 p21.1) fun d23 =>
  bi (storeG 5 (.ptr (List.length H) 0) d23 p21.2 fl) fun h24 =>
  bi (cellR true 5 (.ptr (List.length H) 0) h24) fun r1 =>
  some ((.tup [d22, r1]), h24)
theorem s___master_Master__Tick_eq (n : Nat) (H : Heap) (fl : Nat) (a0 : DV) : callG Try.prog ENV2 (n + 1) 13 [a0] H fl = s___master_Master__Tick n H fl a0 := by kernel_rfl

end Go.Proofs.Ytcpgmbpndpcmdaa

/- Go functions as Lean functions on deep values; printed by a program of mine. -/
namespace Go.Proofs.Ytcpgmbpndpcmdaa
open Go
set_option maxRecDepth 100000
set_option linter.unusedVariables false
/-! triune/rtu.within -/
noncomputable def s_rtu_within (n : Nat) (H : Heap) (fl : Nat) (a0 a1 a2 : DV) : R :=
  bi (ltK .i64 a0 a1) fun d0 =>
  condR d0 (
   bi (buildS (.agg [(I .i64 0), (.flat .nilIface)]) [(0, 1), (1, 1)] [(0, a0), (1, (.iface 32 (I .i64 3)))]) fun d1 =>
  some ((.iface 95 d1), H)) (
   bi (gtK .i64 a0 a2) fun d2 =>
   condR d2 (
    bi (buildS (.agg [(I .i64 0), (.flat .nilIface)]) [(0, 1), (1, 1)] [(0, a0), (1, (.iface 32 (I .i64 4)))]) fun d3 =>
  some ((.iface 95 d3), H)) (
  some ((.flat .nilIface), H)))
theorem s_rtu_within_eq (n : Nat) (H : Heap) (fl : Nat) (a0 a1 a2 : DV) : callG Try.prog ENV (n + 1) 26 [a0, a1, a2] H fl = s_rtu_within n H fl a0 a1 a2 := by kernel_rfl

/-! triune/rtu.told -/
def s_rtu_told_I0 (x0 x7 x8 x9 : DV) : List DV := [x0, .any, .any, .any, .any, .any, .any, x7, x8, x9, .any, .any, .any, .any, .any, .any, .any, .any, .any]
def s_rtu_told_O0 (x4 : DV) : List DV := [.any, .any, .any, .any, x4, .any, .any, .any, .any, .any, .any, .any, .any, .any, .any, .any, .any, .any, .any]
noncomputable abbrev s_rtu_told_b0 (n fl : Nat) : List DV → Heap → (Ex → KF) → R := execG ⟨Try.prog, callG Try.prog ENV n, ENV.md, fl, 19⟩ n (loopAt (bodyOf Try.f27) 0) []
noncomputable def s_rtu_told_B0 (n fl : Nat) (rec : DV → DV → DV → DV → Heap → R) (k : Ex → KF) (x0 x7 x8 x9 : DV) (H : Heap) : R :=
  bi (ltK .i64 x9 x8) fun d0 =>
  condR d0 (
  bi (idxSl 1 x7 x9) fun d1 =>
  bi (loadG false 1 d1 H) fun d2 =>
  bi (cO n 48 [x0, (.iface 32 d2)] H) fun d3 =>
  condR d3 (
  k .ret (s_rtu_told_O0 d2) H) (
  bi (addK .i64 x9 (I .i64 1)) fun d4 =>
  rec x0 x7 x8 d4 H)) (
  k (.exit 0) (s_rtu_told_O0 .any) H)
noncomputable def s_rtu_told_L0 (n fl : Nat) (k : Ex → KF) : Nat → DV → DV → DV → DV → Heap → R
  | 0, _, _, _, _, _ => none
  | m + 1, x0, x7, x8, x9, H => s_rtu_told_B0 n fl (s_rtu_told_L0 n fl k m) k x0 x7 x8 x9 H
theorem s_rtu_told_S0 (n fl m : Nat) (k : Ex → KF) (x0 x7 x8 x9 : DV) (H : Heap) : loopG [0, 7, 8, 9] [4] 19 (s_rtu_told_b0 n fl) (m + 1) (s_rtu_told_I0 x0 x7 x8 x9) H k = s_rtu_told_B0 n fl (fun x0 x7 x8 x9 H => loopG [0, 7, 8, 9] [4] 19 (s_rtu_told_b0 n fl) m (s_rtu_told_I0 x0 x7 x8 x9) H k) k x0 x7 x8 x9 H := by kernel_rfl
theorem s_rtu_told_L0_eq (n fl : Nat) (k : Ex → KF) : ∀ (m : Nat) (x0 x7 x8 x9 : DV) (H : Heap), loopG [0, 7, 8, 9] [4] 19 (s_rtu_told_b0 n fl) m (s_rtu_told_I0 x0 x7 x8 x9) H k = s_rtu_told_L0 n fl k m x0 x7 x8 x9 H := by
  intro m
  induction m with
  | zero => intros; rfl
  | succ m ih =>
    intro x0 x7 x8 x9 H
    rw [s_rtu_told_S0, show (fun x0 x7 x8 x9 H => loopG [0, 7, 8, 9] [4] 19 (s_rtu_told_b0 n fl) m (s_rtu_told_I0 x0 x7 x8 x9) H k) = s_rtu_told_L0 n fl k m from by funext x0 x7 x8 x9 H; exact ih _ _ _ _ _]
    rw [s_rtu_told_L0]
noncomputable def s_rtu_told (n : Nat) (H : Heap) (fl : Nat) (a0 a1 : DV) : R :=
  bi (lenD a1) fun d0 =>
  loopG [0, 7, 8, 9] [4] 19 (s_rtu_told_b0 n fl) n (s_rtu_told_I0 a0 a1 d0 (I .i64 0)) H fun x S1 h1 => match x with
  | .normal => none
  | .exit i1 => (
  if i1 = 0 then (
  some ((I .i64 0), h1)) else (
  none))
  | .ret => (
  some ((S1.getD 4 .any), h1))
theorem s_rtu_told_eq (n : Nat) (H : Heap) (fl : Nat) (a0 a1 : DV) : callG Try.prog ENV (n + 1) 27 [a0, a1] H fl = s_rtu_told n H fl a0 a1 := by kernel_rfl

/-! triune/rtu.Bytes -/
noncomputable def s_rtu_Bytes (n : Nat) (H : Heap) (fl : Nat) (a0 : DV) : R :=
  bi (allocG 44 a0 (List.length H) (H ++ [.hole])) fun h0 =>
  bi (loadG false 1 (.ptr (List.length H) 1) h0) fun d1 =>
  bi (lenD d1) fun d2 =>
  bi (cO n 26 [d2, (I .i64 1), (I .i64 253)] h0) fun d3 =>
  bi (binD Try.prog .neq 70 (.tmp 9) (.const .nilIface) d3 (.flat .nilIface)) fun d4 =>
  condR d4 (
   bi (buildL false 1 2 (I .i64 0) [(0, (I .i64 3)), (1, (I .i64 4))]) fun d5 =>
   bi (cO n 27 [d3, d5] h0) fun d6 =>
  some ((.tup [(.list 0 [] .ti), d6]), h0)) (
  bi (loadG false 1 (.ptr (List.length H) 0) h0) fun d7 =>
  bi (buildL false 1 1 (I .u8 0) [(0, d7)]) fun d8 =>
  bi (loadG false 1 (.ptr (List.length H) 1) h0) fun d9 =>
  bi (appG 5 false 1 1 d8 d9 h0 fl) fun p10 =>
  bi (cP n 28 false [p10.1]) fun d11 =>
  some ((.tup [d11, (I .i64 0)]), p10.2))
theorem s_rtu_Bytes_eq (n : Nat) (H : Heap) (fl : Nat) (a0 : DV) : callG Try.prog ENV (n + 1) 11 [a0] H fl = s_rtu_Bytes n H fl a0 := by kernel_rfl

/-! triune/rtu.Read -/
noncomputable def s_rtu_Read (n : Nat) (H : Heap) (fl : Nat) (a0 : DV) : R :=
  bi (allocG 44 (.agg [(I .u8 0), (.list 0 [] .ti)]) (List.length H) (H ++ [.hole])) fun h0 =>
  bi (lenD a0) fun d1 =>
  bi (cO n 26 [d1, (I .i64 4), (I .i64 256)] h0) fun d2 =>
  bi (binD Try.prog .neq 70 (.tmp 10) (.const .nilIface) d2 (.flat .nilIface)) fun d3 =>
  condR d3 (
   bi (buildS (.agg [(I .u8 0), (.list 0 [] .ti)]) [(0, 1), (1, 1)] []) fun d4 =>
   bi (buildL false 1 2 (I .i64 0) [(0, (I .i64 3)), (1, (I .i64 4))]) fun d5 =>
   bi (cO n 27 [d2, d5] h0) fun d6 =>
   bi (storeG 2 (.ptr (List.length H) 0) d4 h0 fl) fun h7 =>
  bi (cellR true 2 (.ptr (List.length H) 0) h7) fun r0 =>
  some ((.tup [r0, d6]), h7)) (
  bi (cP n 81 false [a0]) fun d8 =>
  bi (extD 0 d8) fun d9 =>
  bi (extD 1 d8) fun d10 =>
  bi (notD d10) fun d11 =>
  condR d11 (
   bi (buildS (.agg [(I .u8 0), (.list 0 [] .ti)]) [(0, 1), (1, 1)] []) fun d12 =>
   bi (storeG 2 (.ptr (List.length H) 0) d12 h0 fl) fun h13 =>
  bi (cellR true 2 (.ptr (List.length H) 0) h13) fun r0 =>
  some ((.tup [r0, (I .i64 6)]), h13)) (
  bi (idxSl 1 d9 (I .i64 0)) fun d14 =>
  bi (loadG false 1 d14 h0) fun d15 =>
  bi (slX 1 d9 (some (I .i64 1)) none none) fun d16 =>
  bi (buildS (.agg [(I .u8 0), (.list 0 [] .ti)]) [(0, 1), (1, 1)] [(0, d15), (1, d16)]) fun d17 =>
  bi (storeG 2 (.ptr (List.length H) 0) d17 h0 fl) fun h18 =>
  bi (cellR true 2 (.ptr (List.length H) 0) h18) fun r0 =>
  some ((.tup [r0, (I .i64 0)]), h18)))
theorem s_rtu_Read_eq (n : Nat) (H : Heap) (fl : Nat) (a0 : DV) : callG Try.prog ENV (n + 1) 74 [a0] H fl = s_rtu_Read n H fl a0 := by kernel_rfl

end Go.Proofs.Ytcpgmbpndpcmdaa

/- Go functions as Lean functions on deep values; printed by a program of mine. -/
namespace Go.Proofs.Ytcpgmbpndpcmdaa
open Go
set_option maxRecDepth 100000
set_option linter.unusedVariables false
end Go.Proofs.Ytcpgmbpndpcmdaa

/- Go functions as Lean functions on deep values; printed by a program of mine. -/
namespace Go.Proofs.Ytcpgmbpndpcmdaa
open Go
set_option maxRecDepth 100000
set_option linter.unusedVariables false
/-! triune/crc.More -/
def s_crc_More_I1 (x0 x8 x9 x10 x18 : DV) : List DV := [x0, .any, .any, .any, .any, .any, .any, .any, x8, x9, x10, .any, .any, .any, .any, .any, .any, .any, x18, .any, .any, .any, .any, .any, .any, .any, .any, .any, .any, .any, .any]
def s_crc_More_O1 (x0 x8 x9 x10 : DV) : List DV := [x0, .any, .any, .any, .any, .any, .any, .any, x8, x9, x10, .any, .any, .any, .any, .any, .any, .any, .any, .any, .any, .any, .any, .any, .any, .any, .any, .any, .any, .any, .any]
noncomputable abbrev s_crc_More_b1 (n fl : Nat) : List DV → Heap → (Ex → KF) → R := execG ⟨Try.prog, callG Try.prog ENV n, ENV.md, fl, 31⟩ n (loopAt (bodyOf Try.f73) 1) []
noncomputable def s_crc_More_B1 (n fl : Nat) (rec : DV → DV → DV → DV → DV → Heap → R) (k : Ex → KF) (x0 x8 x9 x10 x18 : DV) (H : Heap) : R :=
  bi (ltK .i64 x18 (I .i64 8)) fun d0 =>
  condR d0 (
  bi (andK .u16 x0 (I .u16 1)) fun d1 =>
  bi (shrK .u16 x0 (I .u64 1)) fun d2 =>
  bi (unD Try.prog .neg d1) fun d3 =>
  bi (andK .u16 (I .u16 40961) d3) fun d4 =>
  bi (xorK .u16 d2 d4) fun d5 =>
  bi (addK .i64 x18 (I .i64 1)) fun d6 =>
  rec d5 x8 x9 x10 d6 H) (
  k (.exit 2) (s_crc_More_O1 x0 x8 x9 x10) H)
noncomputable def s_crc_More_L1 (n fl : Nat) (k : Ex → KF) : Nat → DV → DV → DV → DV → DV → Heap → R
  | 0, _, _, _, _, _, _ => none
  | m + 1, x0, x8, x9, x10, x18, H => s_crc_More_B1 n fl (s_crc_More_L1 n fl k m) k x0 x8 x9 x10 x18 H
theorem s_crc_More_S1 (n fl m : Nat) (k : Ex → KF) (x0 x8 x9 x10 x18 : DV) (H : Heap) : loopG [0, 8, 9, 10, 18] [0, 8, 9, 10] 31 (s_crc_More_b1 n fl) (m + 1) (s_crc_More_I1 x0 x8 x9 x10 x18) H k = s_crc_More_B1 n fl (fun x0 x8 x9 x10 x18 H => loopG [0, 8, 9, 10, 18] [0, 8, 9, 10] 31 (s_crc_More_b1 n fl) m (s_crc_More_I1 x0 x8 x9 x10 x18) H k) k x0 x8 x9 x10 x18 H := by kernel_rfl
theorem s_crc_More_L1_eq (n fl : Nat) (k : Ex → KF) : ∀ (m : Nat) (x0 x8 x9 x10 x18 : DV) (H : Heap), loopG [0, 8, 9, 10, 18] [0, 8, 9, 10] 31 (s_crc_More_b1 n fl) m (s_crc_More_I1 x0 x8 x9 x10 x18) H k = s_crc_More_L1 n fl k m x0 x8 x9 x10 x18 H := by
  intro m
  induction m with
  | zero => intros; rfl
  | succ m ih =>
    intro x0 x8 x9 x10 x18 H
    rw [s_crc_More_S1, show (fun x0 x8 x9 x10 x18 H => loopG [0, 8, 9, 10, 18] [0, 8, 9, 10] 31 (s_crc_More_b1 n fl) m (s_crc_More_I1 x0 x8 x9 x10 x18) H k) = s_crc_More_L1 n fl k m from by funext x0 x8 x9 x10 x18 H; exact ih _ _ _ _ _ _]
    rw [s_crc_More_L1]
def s_crc_More_I0 (x0 x8 x9 x10 : DV) : List DV := [x0, .any, .any, .any, .any, .any, .any, .any, x8, x9, x10, .any, .any, .any, .any, .any, .any, .any, .any, .any, .any, .any, .any, .any, .any, .any, .any, .any, .any, .any, .any]
def s_crc_More_O0 (x0 : DV) : List DV := [x0, .any, .any, .any, .any, .any, .any, .any, .any, .any, .any, .any, .any, .any, .any, .any, .any, .any, .any, .any, .any, .any, .any, .any, .any, .any, .any, .any, .any, .any, .any]
noncomputable abbrev s_crc_More_b0 (n fl : Nat) : List DV → Heap → (Ex → KF) → R := execG ⟨Try.prog, callG Try.prog ENV n, ENV.md, fl, 31⟩ n (loopAt (bodyOf Try.f73) 0) [([0, 8, 9, 10, 18], [0, 8, 9, 10])]
noncomputable def s_crc_More_B0 (n fl : Nat) (rec : DV → DV → DV → DV → Heap → R) (k : Ex → KF) (x0 x8 x9 x10 : DV) (H : Heap) : R :=
  bi (ltK .i64 x10 x9) fun d0 =>
  condR d0 (
  bi (idxSl 1 x8 x10) fun d1 =>
  bi (loadG false 1 d1 H) fun d2 =>
  bi (cvK .u16 d2) fun d3 =>
  bi (xorK .u16 x0 d3) fun d4 =>
  loopG [0, 8, 9, 10, 18] [0, 8, 9, 10] 31 (s_crc_More_b1 n fl) n (s_crc_More_I1 d4 x8 x9 x10 (I .i64 0)) H fun x S5 h5 => match x with
  | .normal => none
  | .exit i5 => (
  if i5 = 2 then (
  bi (addK .i64 (S5.getD 10 .any) (I .i64 1)) fun d6 =>
  rec (S5.getD 0 .any) (S5.getD 8 .any) (S5.getD 9 .any) d6 h5) else (
  if i5 = 1 then (
  bi (addK .i64 (S5.getD 10 .any) (I .i64 1)) fun d7 =>
  rec (S5.getD 0 .any) (S5.getD 8 .any) (S5.getD 9 .any) d7 h5) else (
  k (.exit i5) (s_crc_More_O0 (S5.getD 0 .any)) h5)))
  | .ret => (
  k .ret (s_crc_More_O0 (S5.getD 0 .any)) h5)) (
  k (.exit 0) (s_crc_More_O0 x0) H)
noncomputable def s_crc_More_L0 (n fl : Nat) (k : Ex → KF) : Nat → DV → DV → DV → DV → Heap → R
  | 0, _, _, _, _, _ => none
  | m + 1, x0, x8, x9, x10, H => s_crc_More_B0 n fl (s_crc_More_L0 n fl k m) k x0 x8 x9 x10 H
theorem s_crc_More_S0 (n fl m : Nat) (k : Ex → KF) (x0 x8 x9 x10 : DV) (H : Heap) : loopG [0, 8, 9, 10] [0] 31 (s_crc_More_b0 n fl) (m + 1) (s_crc_More_I0 x0 x8 x9 x10) H k = s_crc_More_B0 n fl (fun x0 x8 x9 x10 H => loopG [0, 8, 9, 10] [0] 31 (s_crc_More_b0 n fl) m (s_crc_More_I0 x0 x8 x9 x10) H k) k x0 x8 x9 x10 H := by kernel_rfl
theorem s_crc_More_L0_eq (n fl : Nat) (k : Ex → KF) : ∀ (m : Nat) (x0 x8 x9 x10 : DV) (H : Heap), loopG [0, 8, 9, 10] [0] 31 (s_crc_More_b0 n fl) m (s_crc_More_I0 x0 x8 x9 x10) H k = s_crc_More_L0 n fl k m x0 x8 x9 x10 H := by
  intro m
  induction m with
  | zero => intros; rfl
  | succ m ih =>
    intro x0 x8 x9 x10 H
    rw [s_crc_More_S0, show (fun x0 x8 x9 x10 H => loopG [0, 8, 9, 10] [0] 31 (s_crc_More_b0 n fl) m (s_crc_More_I0 x0 x8 x9 x10) H k) = s_crc_More_L0 n fl k m from by funext x0 x8 x9 x10 H; exact ih _ _ _ _ _]
    rw [s_crc_More_L0]
noncomputable def s_crc_More (n : Nat) (H : Heap) (fl : Nat) (a0 a1 : DV) : R :=
  bi (lenD a1) fun d0 =>
  loopG [0, 8, 9, 10] [0] 31 (s_crc_More_b0 n fl) n (s_crc_More_I0 a0 a1 d0 (I .i64 0)) H fun x S1 h1 => match x with
  | .normal => none
  | .exit i1 => (
  if i1 = 0 then (
  some ((S1.getD 0 .any), h1)) else (
  none))
  | .ret => (
  some (.any, h1))
theorem s_crc_More_eq (n : Nat) (H : Heap) (fl : Nat) (a0 a1 : DV) : callG Try.prog ENV (n + 1) 73 [a0, a1] H fl = s_crc_More n H fl a0 a1 := by kernel_rfl

/-! triune/crc.Sum -/
noncomputable def s_crc_Sum (n : Nat) (H : Heap) (fl : Nat) (a0 : DV) : R :=
  bi (cP n 73 false [(I .u16 65535), a0]) fun d0 =>
  some (d0, H)
theorem s_crc_Sum_eq (n : Nat) (H : Heap) (fl : Nat) (a0 : DV) : callG Try.prog ENV (n + 1) 49 [a0] H fl = s_crc_Sum n H fl a0 := by kernel_rfl

/-! triune/crc.Put -/
noncomputable def s_crc_Put (n : Nat) (H : Heap) (fl : Nat) (a0 : DV) : R :=
  bi (cP n 49 false [a0]) fun d0 =>
  bi (lenD a0) fun d1 =>
  bi (lenD a0) fun d2 =>
  bi (slX 1 a0 none (some d1) (some d2)) fun d3 =>
  bi (cvK .u8 d0) fun d4 =>
  bi (shrK .u16 d0 (I .u64 8)) fun d5 =>
  bi (cvK .u8 d5) fun d6 =>
  bi (buildL false 1 2 (I .u8 0) [(0, d4), (1, d6)]) fun d7 =>
  bi (appG 5 false 1 1 d3 d7 H fl) fun p8 =>
  some (p8.1, p8.2)
theorem s_crc_Put_eq (n : Nat) (H : Heap) (fl : Nat) (a0 : DV) : callG Try.prog ENV (n + 1) 28 [a0] H fl = s_crc_Put n H fl a0 := by kernel_rfl

/-! triune/crc.Cut -/
noncomputable def s_crc_Cut (n : Nat) (H : Heap) (fl : Nat) (a0 : DV) : R :=
  bi (lenD a0) fun d0 =>
  bi (ltK .i64 d0 (I .i64 2)) fun d1 =>
  bi (wantF d1 false (some a0)) fun d2 =>
  bi (wantF d1 false (cP n 49 false [d2])) fun d3 =>
  bi (wantF d1 false (neK .u16 d3 (I .u16 0))) fun d4 =>
  bi (pickD d1 (Bo true) d4) fun d5 =>
  condR d5 (
  some ((.tup [(.list 0 [] .ti), (Bo false)]), H)) (
  bi (lenD a0) fun d6 =>
  bi (subK .i64 d6 (I .i64 2)) fun d7 =>
  bi (slX 1 a0 none (some d7) none) fun d8 =>
  bi (appG 5 false 1 1 (.list 0 [] .ti) d8 H fl) fun p9 =>
  some ((.tup [p9.1, (Bo true)]), p9.2))
theorem s_crc_Cut_eq (n : Nat) (H : Heap) (fl : Nat) (a0 : DV) : callG Try.prog ENV (n + 1) 81 [a0] H fl = s_crc_Cut n H fl a0 := by kernel_rfl

end Go.Proofs.Ytcpgmbpndpcmdaa

/- Sums: the program's, and the document's; over lists of numbers. -/
namespace Go.Proofs.Ytcpgmbpndpcmdaa
open Go
set_option linter.unusedSimpArgs false
set_option linter.unusedVariables false
theorem xorI_nat (k : IntKind) (a b : Nat) (hk : k.signed = false) (ha : a < 2 ^ k.bits) (hb : b < 2 ^ k.bits) : xorI k a b = ((a ^^^ b : Nat) : Int) := by
  unfold xorI IntKind.wrap
  have h : a ^^^ b < 2 ^ k.bits := Nat.xor_lt_two_pow ha hb
  simp only [hk, Bool.false_and, Bool.false_eq_true, if_false]
  rw [BitVec.toNat_xor, BitVec.toNat_ofInt, BitVec.toNat_ofInt]
  have e1 : ((a : Int) % ((2 ^ k.bits : Nat) : Int)).toNat = a := by rw [Int.emod_eq_of_lt (by omega) (by exact_mod_cast ha)]; simp
  have e2 : ((b : Int) % ((2 ^ k.bits : Nat) : Int)).toNat = b := by rw [Int.emod_eq_of_lt (by omega) (by exact_mod_cast hb)]; simp
  rw [e1, e2]
  have : (2 : Int) ^ k.bits = ((2 ^ k.bits : Nat) : Int) := by simp
  rw [this]
  exact Int.emod_eq_of_lt (by omega) (by exact_mod_cast h)
theorem andI_nat (k : IntKind) (a b : Nat) (hk : k.signed = false) (ha : a < 2 ^ k.bits) (hb : b < 2 ^ k.bits) : andI k a b = ((a &&& b : Nat) : Int) := by
  unfold andI IntKind.wrap
  have h : a &&& b < 2 ^ k.bits := Nat.lt_of_le_of_lt Nat.and_le_left ha
  simp only [hk, Bool.false_and, Bool.false_eq_true, if_false]
  rw [BitVec.toNat_and, BitVec.toNat_ofInt, BitVec.toNat_ofInt]
  have e1 : ((a : Int) % ((2 ^ k.bits : Nat) : Int)).toNat = a := by rw [Int.emod_eq_of_lt (by omega) (by exact_mod_cast ha)]; simp
  have e2 : ((b : Int) % ((2 ^ k.bits : Nat) : Int)).toNat = b := by rw [Int.emod_eq_of_lt (by omega) (by exact_mod_cast hb)]; simp
  rw [e1, e2]
  have : (2 : Int) ^ k.bits = ((2 ^ k.bits : Nat) : Int) := by simp
  rw [this]
  exact Int.emod_eq_of_lt (by omega) (by exact_mod_cast h)
theorem shrI_1 (x : Int) : shrI .u16 x 1 = x / 2 := by
  unfold shrI
  have : (2 : Int) ^ min (1 : Int).toNat IntKind.u16.bits = 2 := rfl
  rw [this, Int.fdiv_eq_ediv_of_nonneg _ (by omega)]
theorem neg_0 : unD Try.prog .neg (I .u16 0) = some (I .u16 0) := by kernel_rfl
theorem neg_1 : unD Try.prog .neg (I .u16 1) = some (I .u16 65535) := by kernel_rfl
/-- bytes as bytes -/
def nB (l : List Int) : List UInt8 := l.map lowB
theorem nB_length (l : List Int) : (nB l).length = l.length := by simp [nB]
theorem nB_get (l : List Int) (i : Nat) (h : i < l.length) : (nB l)[i]'(by rw [nB_length]; exact h) = lowB l[i] := by simp [nB]
def sumN (l : List Int) : Nat := nMore 65535 (nB l)
theorem sumN_lt (l : List Int) : sumN l < 65536 := nMore_lt _ _ (by omega)
theorem crc_L1 (n fl : Nat) (K : Ex → KF) (x8 x9 x10 : DV) (x0 : Nat) (hx : x0 < 65536) : ∀ (m j : Nat) (H : Heap), 8 < m + j → j ≤ 8 →
    s_crc_More_L1 n fl K m (I .u16 (nBits j x0)) x8 x9 x10 (I .i64 j) H = K (.exit 2) (s_crc_More_O1 (I .u16 (nBits 8 x0)) x8 x9 x10) H := by
  intro m
  induction m with
  | zero => intro j H h; omega
  | succ m ih =>
    intro j H hm hj
    unfold s_crc_More_L1 s_crc_More_B1
    by_cases h : j < 8
    · have ih' := ih (j + 1) H (by omega) (by omega)
      have hj2 : ((j + 1 : Nat) : Int) = (j : Int) + 1 := by omega
      rw [hj2] at ih'
      have hb := nBits_lt j x0 hx
      have e1 : nBits (j + 1) x0 = nBit (nBits j x0) := rfl
      rw [e1] at ih'
      generalize nBits j x0 = y at *
      have a1 : andI .u16 (y : Int) 1 = ((y % 2 : Nat) : Int) := by
        have := andI_nat .u16 y 1 rfl (by exact hb) (by decide)
        rw [Nat.and_one_is_mod] at this
        exact this
      have s1 := shrI_1 (y : Int)
      have hy2 : ((y : Int) / 2) = ((y / 2 : Nat) : Int) := by omega
      rcases (by omega : y % 2 = 0 ∨ y % 2 = 1) with h0 | h0
      · rw [h0] at a1
        have n0 := neg_0
        have a2 : andI .u16 40961 0 = 0 := by decide
        have x1 : xorI .u16 ((y : Int) / 2) 0 = (nBit y : Int) := by
          rw [hy2]
          have := xorI_nat .u16 (y / 2) 0 rfl (by show y / 2 < 65536; omega) (by decide)
          unfold nBit
          rw [if_neg (by omega)]
          exact this
        simp only [Int.natCast_zero] at a1
        simp -implicitDefEqProofs (disch := first | omega | (simp only [List.length_set, List.length_append, List.length_cons, List.length_nil, List.length_take, List.length_drop, List.length_map]; omega) | simp) [wrap_i64, wrap_u16_id, wrap_u8_id, tdiv_pos, tmod_pos, -getElem?_pos, -getElem?_neg, -List.length_eq_zero_iff, -List.getElem_cons_drop, h, a1, s1, n0, a2, x1, ih']
      · rw [h0] at a1
        have n0 := neg_1
        have a2 : andI .u16 40961 65535 = 40961 := by decide
        have x1 : xorI .u16 ((y : Int) / 2) 40961 = (nBit y : Int) := by
          rw [hy2]
          have := xorI_nat .u16 (y / 2) 40961 rfl (by show y / 2 < 65536; omega) (by decide)
          unfold nBit
          rw [if_pos h0]
          exact this
        simp only [Int.natCast_one] at a1
        simp -implicitDefEqProofs (disch := first | omega | (simp only [List.length_set, List.length_append, List.length_cons, List.length_nil, List.length_take, List.length_drop, List.length_map]; omega) | simp) [wrap_i64, wrap_u16_id, wrap_u8_id, tdiv_pos, tmod_pos, -getElem?_pos, -getElem?_neg, -List.length_eq_zero_iff, -List.getElem_cons_drop, h, a1, s1, n0, a2, x1, ih']
    · have : j = 8 := by omega
      subst this
      simp -implicitDefEqProofs (disch := first | omega | (simp only [List.length_set, List.length_append, List.length_cons, List.length_nil, List.length_take, List.length_drop, List.length_map]; omega) | simp) [wrap_i64, wrap_u16_id, wrap_u8_id, tdiv_pos, tmod_pos, -getElem?_pos, -getElem?_neg, -List.length_eq_zero_iff, -List.getElem_cons_drop]
theorem lowB_of (x : Int) (h : 0 ≤ x ∧ x < 256) : x = ((lowB x).toNat : Int) := (lowB_nat x h.1 h.2).symm
theorem nMore_snoc (s : Nat) (l : List UInt8) (k : Nat) (h : k < l.length) : nMore s (l.take (k + 1)) = nBits 8 (nMore s (l.take k) ^^^ (l[k]).toNat) := by
  unfold nMore; rw [List.take_succ_eq_append_getElem h, List.foldl_append]; rfl
theorem crc_L0 (n fl : Nat) (K : Ex → KF) (s : Nat) (hs : s < 65536) (l : List Int) (t : Tag) (hb : Bytes l) (hl : l.length ≤ 100000) (hn : 9 ≤ n) : ∀ (m i : Nat) (H : Heap), l.length < m + i → i ≤ l.length →
    s_crc_More_L0 n fl K m (I .u16 (nMore s ((nB l).take i))) (LV 1 (I .u8) l t) (I .i64 l.length) (I .i64 i) H = K (.exit 0) (s_crc_More_O0 (I .u16 (nMore s (nB l)))) H := by
  intro m
  induction m with
  | zero => intro i H h; omega
  | succ m ih =>
    intro i H hm hi
    unfold s_crc_More_L0 s_crc_More_B0
    by_cases h : i < l.length
    · have ih' := ih (i + 1) H (by omega) (by omega)
      have hi2 : ((i + 1 : Nat) : Int) = (i : Int) + 1 := by omega
      rw [hi2, nMore_snoc s (nB l) i (by rw [nB_length]; exact h), nB_get l i h] at ih'
      have hy := nMore_lt ((nB l).take i) s hs
      generalize nMore s ((nB l).take i) = y at *
      have hx := hb _ (List.getElem_mem h)
      have hc := (lowB l[i]).toNat_lt
      have e := lowB_of l[i] hx
      have hxx : y ^^^ (lowB l[i]).toNat < 65536 := Nat.xor_lt_two_pow (n := 16) hy (by omega)
      have x1 : xorI .u16 (y : Int) l[i] = ((y ^^^ (lowB l[i]).toNat : Nat) : Int) := by
        conv => lhs; rw [e]
        exact xorI_nat .u16 y _ rfl hy (by show _ < 65536; omega)
      have q : ∀ K, loopG [0, 8, 9, 10, 18] [0, 8, 9, 10] 31 (s_crc_More_b1 n fl) n (s_crc_More_I1 (I .u16 ((y ^^^ (lowB l[i]).toNat : Nat) : Int)) (LV 1 (I .u8) l t) (I .i64 l.length) (I .i64 i) (I .i64 0)) H K = _ := fun K => (s_crc_More_L1_eq _ _ _ _ _ _ _ _ _ _).trans (crc_L1 n fl K (LV 1 (I .u8) l t) (I .i64 l.length) (I .i64 i) (y ^^^ (lowB l[i]).toNat) hxx n 0 H (by omega) (by omega))
      simp -implicitDefEqProofs (disch := first | omega | (simp only [List.length_set, List.length_append, List.length_cons, List.length_nil, List.length_take, List.length_drop, List.length_map]; omega) | simp) [wrap_i64, wrap_u16_id, wrap_u8_id, tdiv_pos, tmod_pos, -getElem?_pos, -getElem?_neg, -List.length_eq_zero_iff, -List.getElem_cons_drop, h, x1, q, s_crc_More_O1, ih']
    · have : i = l.length := by omega
      subst this
      have e : (nB l).take l.length = nB l := List.take_of_length_le (by rw [nB_length]; omega)
      rw [e]
      simp -implicitDefEqProofs (disch := first | omega | (simp only [List.length_set, List.length_append, List.length_cons, List.length_nil, List.length_take, List.length_drop, List.length_map]; omega) | simp) [wrap_i64, wrap_u16_id, wrap_u8_id, tdiv_pos, tmod_pos, -getElem?_pos, -getElem?_neg, -List.length_eq_zero_iff, -List.getElem_cons_drop]
theorem crc_More_c (n : Nat) (s : Nat) (hs : s < 65536) (l : List Int) (t : Tag) (hb : Bytes l) (hl : l.length ≤ 100000) (hn : l.length + 12 ≤ n) : cP n 73 false [I .u16 s, LV 1 (I .u8) l t] = some (I .u16 (nMore s (nB l))) := by
  obtain ⟨n, rfl⟩ : ∃ m, n = m + 1 := ⟨n - 1, by omega⟩
  have q : ∀ K, loopG [0, 8, 9, 10] [0] 31 (s_crc_More_b0 n 0) n (s_crc_More_I0 (I .u16 s) (LV 1 (I .u8) l .sh) (I .i64 l.length) (I .i64 0)) [] K = _ := fun K => (s_crc_More_L0_eq _ _ _ _ _ _ _ _ _).trans (crc_L0 n 0 K s hs l .sh hb hl (by omega) n 0 [] (by omega) (by omega))
  exact cP_of (args' := [I .u16 s, LV 1 (I .u8) l .sh]) (by simp [argEl_eq]) ((s_crc_More_eq _ _ _ _ _).trans (by unfold s_crc_More; simp -implicitDefEqProofs (disch := first | omega | (simp only [List.length_set, List.length_append, List.length_cons, List.length_nil, List.length_take, List.length_drop, List.length_map]; omega) | simp) [wrap_i64, wrap_u16_id, wrap_u8_id, tdiv_pos, tmod_pos, -getElem?_pos, -getElem?_neg, -List.length_eq_zero_iff, -List.getElem_cons_drop, q, s_crc_More_O0]; first | exact rfl | exact ⟨rfl, rfl⟩)) (by simp)
theorem crc_Sum_c (n : Nat) (l : List Int) (t : Tag) (hb : Bytes l) (hl : l.length ≤ 100000) (hn : l.length + 14 ≤ n) : cP n 49 false [LV 1 (I .u8) l t] = some (I .u16 (sumN l)) := by
  obtain ⟨n, rfl⟩ : ∃ m, n = m + 1 := ⟨n - 1, by omega⟩
  have q : cP n 73 false [I .u16 65535, LV 1 (I .u8) l .sh] = some (I .u16 (nMore 65535 (nB l))) := crc_More_c n 65535 (by omega) l .sh hb hl (by omega)
  unfold sumN
  exact cP_of (args' := [LV 1 (I .u8) l .sh]) (by simp [argEl_eq]) ((s_crc_Sum_eq _ _ _ _).trans (by unfold s_crc_Sum; simp -implicitDefEqProofs (disch := first | omega | (simp only [List.length_set, List.length_append, List.length_cons, List.length_nil, List.length_take, List.length_drop, List.length_map]; omega) | simp) [wrap_i64, wrap_u16_id, wrap_u8_id, tdiv_pos, tmod_pos, -getElem?_pos, -getElem?_neg, -List.length_eq_zero_iff, -List.getElem_cons_drop, q]; first | exact rfl | exact ⟨rfl, rfl⟩)) (by simp)
/-- bytes, and their sum behind them -/
def putI (l : List Int) : List Int := l ++ [(sumN l : Int) % 256, (sumN l : Int) / 256]
theorem putI_length (l : List Int) : (putI l).length = l.length + 2 := by simp [putI]
theorem putI_bytes {l : List Int} (h : Bytes l) : Bytes (putI l) := by
  intro x hx
  have := sumN_lt l
  unfold putI at hx
  simp only [List.mem_append, List.mem_cons, List.not_mem_nil, or_false] at hx
  rcases hx with hx | rfl | rfl
  · exact h x hx
  · omega
  · omega
theorem buildL_u2 (a b : Int) : buildL false 1 2 (I .u8 0) [(0, I .u8 a), (1, I .u8 b)] = some (LV 1 (I .u8) [a, b] .ti) := rfl
theorem shrI_8 (x : Int) : shrI .u16 x 8 = x / 256 := shrI_w8 x
theorem crc_Put_c (n : Nat) (l : List Int) (t : Tag) (hb : Bytes l) (hl : l.length ≤ 100000) (hn : l.length + 16 ≤ n) : cP n 28 false [LV 1 (I .u8) l t] = some (LV 1 (I .u8) (putI l) .sh) := by
  obtain ⟨n, rfl⟩ : ∃ m, n = m + 1 := ⟨n - 1, by omega⟩
  have q := crc_Sum_c n l .sh hb hl (by omega)
  have hs := sumN_lt l
  unfold putI
  generalize sumN l = s at *
  have e1 : IntKind.wrap .u8 (s : Int) = ((s : Int) % 256) := wrap_u8 _
  have e2 : IntKind.wrap .u8 ((s : Int) / 256) = ((s : Int) / 256) := by rw [wrap_u8]; omega
  have e3 := buildL_u2 ((s : Int) % 256) ((s : Int) / 256)
  have e4 := shrI_8 (s : Int)
  have ha := appG_ti (e := 5) (ag := false) (sz := 1) (by_ := 1) (enc := I .u8) (xs := l) (ys := [((s : Int) % 256), ((s : Int) / 256)]) (t' := .ti) (H := []) (fl := 0) (by simp) rfl (by simp; omega) (by simp; omega)
  exact cP_of (args' := [LV 1 (I .u8) l .sh]) (by simp [argEl_eq]) ((s_crc_Put_eq _ _ _ _).trans (by unfold s_crc_Put; simp -implicitDefEqProofs (disch := first | omega | (simp only [List.length_set, List.length_append, List.length_cons, List.length_nil, List.length_take, List.length_drop, List.length_map]; omega) | simp) [wrap_i64, wrap_u16_id, wrap_u8_id, tdiv_pos, tmod_pos, -getElem?_pos, -getElem?_neg, -List.length_eq_zero_iff, -List.getElem_cons_drop, q, e1, e2, e3, e4, ha, List.take_length]; first | exact rfl | exact ⟨rfl, rfl⟩)) (by simp)
theorem nil_LV (t : Tag) : DV.list 0 [] t = LV 1 (I .u8) [] t := rfl
theorem crc_Cut_no (n : Nat) (l : List Int) (t : Tag) (hb : Bytes l) (hl : l.length ≤ 100000) (hn : l.length + 16 ≤ n) (hc : l.length < 2 ∨ sumN l ≠ 0) : cP n 81 false [LV 1 (I .u8) l t] = some (.tup [.list 0 [] .sh, Bo false]) := by
  obtain ⟨n, rfl⟩ : ∃ m, n = m + 1 := ⟨n - 1, by omega⟩
  have q := crc_Sum_c n l .sh hb hl (by omega)
  by_cases c1 : l.length < 2
  · exact cP_of (args' := [LV 1 (I .u8) l .sh]) (by simp [argEl_eq]) ((s_crc_Cut_eq _ _ _ _).trans (by unfold s_crc_Cut; simp -implicitDefEqProofs (disch := first | omega | (simp only [List.length_set, List.length_append, List.length_cons, List.length_nil, List.length_take, List.length_drop, List.length_map]; omega) | simp) [wrap_i64, wrap_u16_id, wrap_u8_id, tdiv_pos, tmod_pos, -getElem?_pos, -getElem?_neg, -List.length_eq_zero_iff, -List.getElem_cons_drop, c1]; first | exact rfl | exact ⟨rfl, rfl⟩)) (by simp)
  · have c2 := hc.resolve_left c1
    exact cP_of (args' := [LV 1 (I .u8) l .sh]) (by simp [argEl_eq]) ((s_crc_Cut_eq _ _ _ _).trans (by unfold s_crc_Cut; simp -implicitDefEqProofs (disch := first | omega | (simp only [List.length_set, List.length_append, List.length_cons, List.length_nil, List.length_take, List.length_drop, List.length_map]; omega) | simp) [wrap_i64, wrap_u16_id, wrap_u8_id, tdiv_pos, tmod_pos, -getElem?_pos, -getElem?_neg, -List.length_eq_zero_iff, -List.getElem_cons_drop, c1, q, c2]; first | exact rfl | exact ⟨rfl, rfl⟩)) (by simp)
theorem crc_Cut_c (n : Nat) (l : List Int) (t : Tag) (hb : Bytes l) (hl : l.length ≤ 100000) (hn : l.length + 16 ≤ n) (h2 : 2 ≤ l.length) (h0 : sumN l = 0) : cP n 81 false [LV 1 (I .u8) l t] = some (.tup [LV 1 (I .u8) (l.take (l.length - 2)) .sh, Bo true]) := by
  obtain ⟨n, rfl⟩ : ∃ m, n = m + 1 := ⟨n - 1, by omega⟩
  have q := crc_Sum_c n l .sh hb hl (by omega)
  simp only [h0, Int.natCast_zero] at q
  have e : ((l.length : Int) - 2).toNat = l.length - 2 := by omega
  obtain ⟨t2, H', ha, _⟩ := appG_all (e := 5) (ag := false) (sz := 1) (by_ := 1) (n0 := 0) (enc := I .u8) (xs := []) (ys := l.take (l.length - 2)) (t := .ti) (t' := .sh) (H := []) (fl := 0) (by omega) (by omega) (.inl rfl) rfl (by simp; omega) (by simp; omega)
  rw [← nil_LV, List.nil_append] at ha
  exact cP_of (r := .tup [LV 1 (I .u8) (l.take (l.length - 2)) t2, Bo true]) (args' := [LV 1 (I .u8) l .sh]) (by simp [argEl_eq]) ((s_crc_Cut_eq _ _ _ _).trans (by unfold s_crc_Cut; simp -implicitDefEqProofs (disch := first | omega | (simp only [List.length_set, List.length_append, List.length_cons, List.length_nil, List.length_take, List.length_drop, List.length_map]; omega) | simp) [wrap_i64, wrap_u16_id, wrap_u8_id, tdiv_pos, tmod_pos, -getElem?_pos, -getElem?_neg, -List.length_eq_zero_iff, -List.getElem_cons_drop, q, e, ha]; first | exact rfl | exact ⟨rfl, rfl⟩)) (by simp)
end Go.Proofs.Ytcpgmbpndpcmdaa

/- Sums: the document's answer is the program's. -/
namespace Go.Proofs.Ytcpgmbpndpcmdaa
open Go
set_option linter.unusedSimpArgs false
set_option linter.unusedVariables false
set_option maxRecDepth 100000
theorem sumN_crc (l : List Int) : crcMore 65535 (nB l) = (sumN l : Int) := crcMore_nat (nB l) 65535 (by omega)
theorem nB_put (l : List Int) : nB (putI l) = crcPut (nB l) := by
  have h := sumN_lt l
  unfold putI crcPut
  rw [sumN_crc]
  have : (sumN l : Int) / 256 % 256 = (sumN l : Int) / 256 := by omega
  rw [this]
  simp [nB]
theorem putI_zero (l : List Int) : sumN (putI l) = 0 := by
  have := crcPut_zero (nB l)
  rw [← nB_put, sumN_crc] at this
  exact_mod_cast this
end Go.Proofs.Ytcpgmbpndpcmdaa

/- Frames of a bus: their bytes, what is read, and whether two are the same; the program's and the document's. -/
namespace Go.Proofs.Ytcpgmbpndpcmdaa
open Go
set_option linter.unusedSimpArgs false
set_option linter.unusedVariables false
@[simp] theorem cells_iface (t : TypeId) (d : DV) : (DV.iface t d).cells = [.iface t d] := rfl
@[simp] theorem leaf_iface (t : TypeId) (d : DV) : (DV.iface t d).leaf = true := rfl
def trV (n e : Int) : DV := .iface 95 (.agg [I .i64 n, .iface 32 (I .i64 e)])
theorem is_c (n : Nat) (H : Heap) (fl : Nat) (a e x : Int) : callG Try.prog ENV (n + 1) 48 [trV a e, .iface 32 (I .i64 x)] H fl = some (Bo (e == x), H) := by kernel_rfl
theorem Is_c (n : Nat) (H : Heap) (a e x : Int) (hn : 1 ≤ n) : cO n 48 [trV a e, .iface 32 (I .i64 x)] H = some (Bo (e == x)) := by
  obtain ⟨n, rfl⟩ : ∃ m, n = m + 1 := ⟨n - 1, by omega⟩
  exact cO_of (is_c n H _ a e x) rfl
def wiV (n lo hi : Int) : DV := if n < lo then trV n 3 else if hi < n then trV n 4 else .flat .nilIface
theorem old_tr (n : Nat) (H : Heap) (a e : Int) : oldD n H (trV a e) = some (trV a e) := rfl
theorem within_c (n : Nat) (H : Heap) (a lo hi : Int) (hn : 1 ≤ n) : cO n 26 [I .i64 a, I .i64 lo, I .i64 hi] H = some (wiV a lo hi) := by
  obtain ⟨n, rfl⟩ : ∃ m, n = m + 1 := ⟨n - 1, by omega⟩
  unfold wiV
  by_cases c1 : a < lo
  · rw [if_pos c1]
    exact cO_of (H' := H) (r := trV a 3) ((s_rtu_within_eq _ _ _ _ _ _).trans (by unfold s_rtu_within; simp -implicitDefEqProofs (disch := first | omega | (simp only [List.length_set, List.length_append, List.length_cons, List.length_nil, List.length_take, List.length_drop, List.length_map]; omega) | simp) [wrap_i64, wrap_u16_id, wrap_u8_id, tdiv_pos, tmod_pos, -getElem?_pos, -getElem?_neg, -List.length_eq_zero_iff, -List.getElem_cons_drop, c1, trV])) (old_tr _ _ _ _)
  · rw [if_neg c1]
    by_cases c2 : hi < a
    · rw [if_pos c2]
      exact cO_of (H' := H) (r := trV a 4) ((s_rtu_within_eq _ _ _ _ _ _).trans (by unfold s_rtu_within; simp -implicitDefEqProofs (disch := first | omega | (simp only [List.length_set, List.length_append, List.length_cons, List.length_nil, List.length_take, List.length_drop, List.length_map]; omega) | simp) [wrap_i64, wrap_u16_id, wrap_u8_id, tdiv_pos, tmod_pos, -getElem?_pos, -getElem?_neg, -List.length_eq_zero_iff, -List.getElem_cons_drop, c1, c2, trV])) (old_tr _ _ _ _)
    · rw [if_neg c2]
      exact cO_of (H' := H) (r := .flat .nilIface) ((s_rtu_within_eq _ _ _ _ _ _).trans (by unfold s_rtu_within; simp -implicitDefEqProofs (disch := first | omega | (simp only [List.length_set, List.length_append, List.length_cons, List.length_nil, List.length_take, List.length_drop, List.length_map]; omega) | simp) [wrap_i64, wrap_u16_id, wrap_u8_id, tdiv_pos, tmod_pos, -getElem?_pos, -getElem?_neg, -List.length_eq_zero_iff, -List.getElem_cons_drop, c1, c2])) rfl
theorem told_c (n : Nat) (H : Heap) (a e : Int) (t : Tag) (hn : 5 ≤ n) (he : e = 3 ∨ e = 4) : cO n 27 [trV a e, LV 1 (I .i64) [3, 4] t] H = some (I .i64 e) := by
  obtain ⟨n, rfl⟩ : ∃ m, n = m + 4 := ⟨n - 4, by omega⟩
  have i3 := Is_c (n + 3) H a e 3 (by omega)
  have i4 := Is_c (n + 3) H a e 4 (by omega)
  have q : ∀ K, loopG [0, 7, 8, 9] [4] 19 (s_rtu_told_b0 (n + 3) H.length) (n + 3) (s_rtu_told_I0 (trV a e) (LV 1 (I .i64) [3, 4] t) (I .i64 2) (I .i64 0)) H K = K .ret (s_rtu_told_O0 (I .i64 e)) H := by
    intro K
    rw [s_rtu_told_L0_eq]
    rcases he with rfl | rfl
    · have e1 : ((3 : Int) == 3) = true := by decide
      rw [e1] at i3
      simp -implicitDefEqProofs (disch := first | omega | (simp only [List.length_set, List.length_append, List.length_cons, List.length_nil, List.length_take, List.length_drop, List.length_map]; omega) | simp) [wrap_i64, wrap_u16_id, wrap_u8_id, tdiv_pos, tmod_pos, -getElem?_pos, -getElem?_neg, -List.length_eq_zero_iff, -List.getElem_cons_drop, s_rtu_told_L0, s_rtu_told_B0, i3]
    · have e1 : ((4 : Int) == 3) = false := by decide
      have e2 : ((4 : Int) == 4) = true := by decide
      rw [e1] at i3
      rw [e2] at i4
      simp -implicitDefEqProofs (disch := first | omega | (simp only [List.length_set, List.length_append, List.length_cons, List.length_nil, List.length_take, List.length_drop, List.length_map]; omega) | simp) [wrap_i64, wrap_u16_id, wrap_u8_id, tdiv_pos, tmod_pos, -getElem?_pos, -getElem?_neg, -List.length_eq_zero_iff, -List.getElem_cons_drop, s_rtu_told_L0, s_rtu_told_B0, i3, i4]
  exact cO_of (H' := H) (r := I .i64 e) ((s_rtu_told_eq _ _ _ _ _).trans (by unfold s_rtu_told; simp -implicitDefEqProofs (disch := first | omega | (simp only [List.length_set, List.length_append, List.length_cons, List.length_nil, List.length_take, List.length_drop, List.length_map]; omega) | simp) [wrap_i64, wrap_u16_id, wrap_u8_id, tdiv_pos, tmod_pos, -getElem?_pos, -getElem?_neg, -List.length_eq_zero_iff, -List.getElem_cons_drop, q, s_rtu_told_O0])) rfl
structure Fm where
  u : Int
  p : List Int
def fmE (x : Fm) (t : Tag) : DV := .agg [I .u8 x.u, LV 1 (I .u8) x.p t]
structure FmOk (x : Fm) : Prop where
  u : 0 ≤ x.u ∧ x.u < 256
  p : Bytes x.p
  l : x.p.length ≤ 1000
theorem FmOk.all {x : Fm} (h : FmOk x) : Bytes (x.u :: x.p) := by
  intro y hy
  rcases List.mem_cons.mp hy with rfl | hy
  · exact h.u
  · exact h.p y hy
def bytV (x : Fm) : DV := if x.p.length < 1 then .tup [.list 0 [] .sh, I .i64 3] else if 253 < x.p.length then .tup [.list 0 [] .sh, I .i64 4] else .tup [LV 1 (I .u8) (putI (x.u :: x.p)) .sh, I .i64 0]
theorem nen_tr (x y : Operand) (a e : Int) : binD Try.prog .neq 70 x y (trV a e) (.flat .nilIface) = some (Bo true) := by kernel_rfl
theorem nen_nil (k : Nat) : binD Try.prog .neq 70 (.tmp k) (.const .nilIface) (.flat .nilIface) (.flat .nilIface) = some (Bo false) := by kernel_rfl
theorem buildL_34 : buildL false 1 2 (I .i64 0) [(0, I .i64 3), (1, I .i64 4)] = some (LV 1 (I .i64) [3, 4] .ti) := rfl
theorem buildL_u1 (a : Int) : buildL false 1 1 (I .u8 0) [(0, I .u8 a)] = some (LV 1 (I .u8) [a] .ti) := rfl
theorem rtu_Bytes_c (n : Nat) (x : Fm) (t : Tag) (ok : FmOk x) (hn : 1100 ≤ n) : cP n 11 false [fmE x t] = some (bytV x) := by
  obtain ⟨n, rfl⟩ : ∃ m, n = m + 1 := ⟨n - 1, by omega⟩
  obtain ⟨u, p⟩ := x
  have hl := ok.l
  have hb := ok.all
  simp only at hl hb
  have go : ∀ r r', (∃ H', s_rtu_Bytes n [] 0 (fmE ⟨u, p⟩ .sh) = some (r, H')) → (∀ H', outD false H' r = some r') → bytV ⟨u, p⟩ = r' → cP (n + 1) 11 false [fmE ⟨u, p⟩ t] = some (bytV ⟨u, p⟩) := by
    intro r r' ⟨H', h⟩ h2 h3
    rw [h3]
    exact cP_of (args' := [fmE ⟨u, p⟩ .sh]) (by simp [argEl_eq, fmE]) ((s_rtu_Bytes_eq _ _ _ _).trans h) (h2 H')
  have hw := fun H => within_c n H p.length 1 253 (by omega)
  have ht3 := fun H => told_c n H p.length 3 .ti (by omega) (.inl rfl)
  have ht4 := fun H => told_c n H p.length 4 .ti (by omega) (.inr rfl)
  have h34 := buildL_34
  unfold wiV at hw
  by_cases c1 : p.length < 1
  · rw [if_pos (by omega)] at hw
    refine go (.tup [.list 0 [] .ti, I .i64 3]) (.tup [.list 0 [] .sh, I .i64 3]) ?_ (fun H' => by simp <;> rfl) (by unfold bytV; rw [if_pos c1])
    exact ⟨_, by unfold s_rtu_Bytes fmE; simp -implicitDefEqProofs (disch := first | omega | (simp only [List.length_set, List.length_append, List.length_cons, List.length_nil, List.length_take, List.length_drop, List.length_map]; omega) | simp) [wrap_i64, wrap_u16_id, wrap_u8_id, tdiv_pos, tmod_pos, -getElem?_pos, -getElem?_neg, -List.length_eq_zero_iff, -List.getElem_cons_drop, hw, nen_tr, h34, ht3]; rfl⟩
  by_cases c2 : 253 < p.length
  · rw [if_neg (by omega), if_pos (by omega)] at hw
    refine go (.tup [.list 0 [] .ti, I .i64 4]) (.tup [.list 0 [] .sh, I .i64 4]) ?_ (fun H' => by simp <;> rfl) (by unfold bytV; rw [if_neg c1, if_pos c2])
    exact ⟨_, by unfold s_rtu_Bytes fmE; simp -implicitDefEqProofs (disch := first | omega | (simp only [List.length_set, List.length_append, List.length_cons, List.length_nil, List.length_take, List.length_drop, List.length_map]; omega) | simp) [wrap_i64, wrap_u16_id, wrap_u8_id, tdiv_pos, tmod_pos, -getElem?_pos, -getElem?_neg, -List.length_eq_zero_iff, -List.getElem_cons_drop, hw, nen_tr, h34, ht4]; rfl⟩
  · rw [if_neg (by omega), if_neg (by omega)] at hw
    have hP := crc_Put_c n (u :: p)
    have h1 := buildL_u1 u
    obtain ⟨t2, H', ha, _⟩ := appG_all (e := 5) (ag := false) (sz := 1) (by_ := 1) (n0 := 1) (enc := I .u8) (xs := [u]) (ys := p) (t := .ti) (t' := .sh) (H := [.cells 44 [I .u8 u, LV 1 (I .u8) p .sh]]) (fl := 0) (by omega) (by simp) (.inl rfl) rfl (by simp; omega) (by simp; omega)
    rw [List.cons_append, List.nil_append] at ha
    have hP := crc_Put_c n (u :: p) t2 hb (by simp; omega) (by simp; omega)
    refine go (.tup [LV 1 (I .u8) (putI (u :: p)) .sh, I .i64 0]) (.tup [LV 1 (I .u8) (putI (u :: p)) .sh, I .i64 0]) ?_ (fun H' => by simp) (by unfold bytV; rw [if_neg c1, if_neg c2])
    exact ⟨_, by unfold s_rtu_Bytes fmE; simp -implicitDefEqProofs (disch := first | omega | (simp only [List.length_set, List.length_append, List.length_cons, List.length_nil, List.length_take, List.length_drop, List.length_map]; omega) | simp) [wrap_i64, wrap_u16_id, wrap_u8_id, tdiv_pos, tmod_pos, -getElem?_pos, -getElem?_neg, -List.length_eq_zero_iff, -List.getElem_cons_drop, hw, nen_nil, h1, ha, hP]; rfl⟩
def rdV (b : List Int) : Fm × Int := if b.length < 4 then (⟨0, []⟩, 3) else if 256 < b.length then (⟨0, []⟩, 4) else if sumN b ≠ 0 then (⟨0, []⟩, 6) else (⟨b.headD 0, (b.take (b.length - 2)).drop 1⟩, 0)
theorem rtu_Read_c (n : Nat) (b : List Int) (t : Tag) (hb : Bytes b) (hl : b.length ≤ 1000) (hn : 1100 ≤ n) : cP n 74 false [LV 1 (I .u8) b t] = some (.tup [fmE (rdV b).1 .sh, I .i64 (rdV b).2]) := by
  obtain ⟨n, rfl⟩ : ∃ m, n = m + 1 := ⟨n - 1, by omega⟩
  have go : ∀ r f e, (∃ H', s_rtu_Read n [] 0 (LV 1 (I .u8) b .sh) = some (r, H')) → rdV b = (f, e) → (∀ H', outD false H' r = some (.tup [fmE f .sh, I .i64 e])) → cP (n + 1) 74 false [LV 1 (I .u8) b t] = some (.tup [fmE (rdV b).1 .sh, I .i64 (rdV b).2]) := by
    intro r f e ⟨H', h⟩ h3 h2
    rw [h3]
    exact cP_of (args' := [LV 1 (I .u8) b .sh]) (by simp [argEl_eq]) ((s_rtu_Read_eq _ _ _ _).trans h) (h2 H')
  have hw := fun H => within_c n H b.length 4 256 (by omega)
  have ht3 := fun H => told_c n H b.length 3 .ti (by omega) (.inl rfl)
  have ht4 := fun H => told_c n H b.length 4 .ti (by omega) (.inr rfl)
  have h34 := buildL_34
  unfold wiV at hw
  by_cases c1 : b.length < 4
  · rw [if_pos (by omega)] at hw
    refine go (.tup [.agg [I .u8 0, .list 0 [] .ti], I .i64 3]) _ _ ?_ (by unfold rdV; rw [if_pos c1]) (fun H' => by simp [fmE] <;> rfl)
    exact ⟨_, by unfold s_rtu_Read; simp -implicitDefEqProofs (disch := first | omega | (simp only [List.length_set, List.length_append, List.length_cons, List.length_nil, List.length_take, List.length_drop, List.length_map]; omega) | simp) [wrap_i64, wrap_u16_id, wrap_u8_id, tdiv_pos, tmod_pos, -getElem?_pos, -getElem?_neg, -List.length_eq_zero_iff, -List.getElem_cons_drop, hw, nen_tr, h34, ht3]; rfl⟩
  by_cases c2 : 256 < b.length
  · rw [if_neg (by omega), if_pos (by omega)] at hw
    refine go (.tup [.agg [I .u8 0, .list 0 [] .ti], I .i64 4]) _ _ ?_ (by unfold rdV; rw [if_neg c1, if_pos c2]) (fun H' => by simp [fmE] <;> rfl)
    exact ⟨_, by unfold s_rtu_Read; simp -implicitDefEqProofs (disch := first | omega | (simp only [List.length_set, List.length_append, List.length_cons, List.length_nil, List.length_take, List.length_drop, List.length_map]; omega) | simp) [wrap_i64, wrap_u16_id, wrap_u8_id, tdiv_pos, tmod_pos, -getElem?_pos, -getElem?_neg, -List.length_eq_zero_iff, -List.getElem_cons_drop, hw, nen_tr, h34, ht4]; rfl⟩
  rw [if_neg (by omega), if_neg (by omega)] at hw
  by_cases c3 : sumN b = 0
  · have hC := crc_Cut_c n b .sh hb (by omega) (by omega) (by omega) c3
    have hL : (b.take (b.length - 2)).length = b.length - 2 := by simp
    have hg : ∀ h : 0 < (b.take (b.length - 2)).length, (b.take (b.length - 2))[0] = b.headD 0 := fun h => by
      cases b with
      | nil => simp at c1
      | cons x b => rw [List.getElem_take]; rfl
    refine go (.tup [.agg [I .u8 (b.headD 0), LV 1 (I .u8) ((b.take (b.length - 2)).drop 1) .sh], I .i64 0]) _ _ ?_ (by unfold rdV; rw [if_neg c1, if_neg c2, if_neg (by simpa using c3)]) (fun H' => by simp [fmE])
    generalize b.take (b.length - 2) = f at *
    exact ⟨_, by unfold s_rtu_Read; simp -implicitDefEqProofs (disch := first | omega | (simp only [List.length_set, List.length_append, List.length_cons, List.length_nil, List.length_take, List.length_drop, List.length_map]; omega) | simp) [wrap_i64, wrap_u16_id, wrap_u8_id, tdiv_pos, tmod_pos, -getElem?_pos, -getElem?_neg, -List.length_eq_zero_iff, -List.getElem_cons_drop, hw, nen_nil, hC, hL, hg]; rfl⟩
  · have hC := crc_Cut_no n b .sh hb (by omega) (by omega) (.inr c3)
    refine go (.tup [.agg [I .u8 0, .list 0 [] .ti], I .i64 6]) _ _ ?_ (by unfold rdV; rw [if_neg c1, if_neg c2, if_pos c3]) (fun H' => by simp [fmE] <;> rfl)
    exact ⟨_, by unfold s_rtu_Read; simp -implicitDefEqProofs (disch := first | omega | (simp only [List.length_set, List.length_append, List.length_cons, List.length_nil, List.length_take, List.length_drop, List.length_map]; omega) | simp) [wrap_i64, wrap_u16_id, wrap_u8_id, tdiv_pos, tmod_pos, -getElem?_pos, -getElem?_neg, -List.length_eq_zero_iff, -List.getElem_cons_drop, hw, nen_nil, hC]; rfl⟩
end Go.Proofs.Ytcpgmbpndpcmdaa

/- Frames of a bus that come in; and plain facts of them. -/
namespace Go.Proofs.Ytcpgmbpndpcmdaa
open Go
set_option linter.unusedSimpArgs false
set_option linter.unusedVariables false
theorem bytesOf {l : List Int} (h : ∀ a ∈ l, (Lit.int .u8 a).wf = true) : Bytes l := fun x hx => wf_u8 (h x hx)
theorem rdV_ok (b : List Int) (hb : Bytes b) : FmOk (rdV b).1 := by
  have z : FmOk ⟨0, []⟩ := ⟨by simp, fun x hx => by simp at hx, by simp⟩
  unfold rdV
  split
  · exact z
  split
  · exact z
  split
  · exact z
  · rename_i h1 h2 h3
    cases b with
    | nil => simp at h1
    | cons x b =>
      refine ⟨hb x (by simp), fun y hy => hb y (List.mem_of_mem_take (List.mem_of_mem_drop hy)), ?_⟩
      simp only [List.length_drop, List.length_take]
      omega
theorem rdV_put (x : Fm) (h1 : 1 ≤ x.p.length) (h2 : x.p.length ≤ 253) : rdV (putI (x.u :: x.p)) = (x, 0) := by
  have hl : (putI (x.u :: x.p)).length = x.p.length + 3 := by rw [putI_length]; simp
  unfold rdV
  rw [if_neg (by omega), if_neg (by omega), if_neg (by rw [putI_zero]; simp), hl]
  have e : x.p.length + 3 - 2 = (x.u :: x.p).length := by simp
  have e2 : (putI (x.u :: x.p)).take (x.u :: x.p).length = x.u :: x.p := by unfold putI; simp
  rw [e, e2]
  rfl
end Go.Proofs.Ytcpgmbpndpcmdaa

/- Go functions as Lean functions on deep values; printed by a program of mine. -/
namespace Go.Proofs.Ytcpgmbpndpcmdaa
open Go
set_option maxRecDepth 100000
set_option linter.unusedVariables false
/-! triune/triuneref07.long -/
def s_triuneref07_long_I0 (x0 x3 x4 : DV) : List DV := [x0, .any, .any, x3, x4, .any, .any, .any, .any, .any, .any, .any, .any, .any, .any, .any, .any, .any, .any, .any, .any, .any, .any, .any]
def s_triuneref07_long_O0 (x3 : DV) : List DV := [.any, .any, .any, x3, .any, .any, .any, .any, .any, .any, .any, .any, .any, .any, .any, .any, .any, .any, .any, .any, .any, .any, .any, .any]
noncomputable abbrev s_triuneref07_long_b0 (n fl : Nat) : List DV → Heap → (Ex → KF) → R := execG ⟨Try.prog, callG Try.prog ENV n, ENV.md, fl, 24⟩ n (loopAt (bodyOf Try.f35) 0) []
noncomputable def s_triuneref07_long_B0 (n fl : Nat) (rec : DV → DV → DV → Heap → R) (k : Ex → KF) (x0 x3 x4 : DV) (H : Heap) : R :=
  bi (lenD x0) fun d0 =>
  bi (ltK .i64 x4 d0) fun d1 =>
  bi (wantF d1 true (some x3)) fun d2 =>
  bi (wantF d1 true (ltK .i64 d2 (I .i64 1000))) fun d3 =>
  bi (pickD d1 d3 (Bo false)) fun d4 =>
  condR d4 (
  bi (addK .i64 x3 (I .i64 2)) fun d5 =>
  bi (idxSl 1 x0 x4) fun d6 =>
  bi (loadG false 1 d6 H) fun d7 =>
  bi (lenStr d7) fun d8 =>
  bi (addK .i64 d5 d8) fun d9 =>
  bi (addK .i64 x4 (I .i64 1)) fun d10 =>
  rec x0 d9 d10 H) (
  k (.exit 0) (s_triuneref07_long_O0 x3) H)
noncomputable def s_triuneref07_long_L0 (n fl : Nat) (k : Ex → KF) : Nat → DV → DV → DV → Heap → R
  | 0, _, _, _, _ => none
  | m + 1, x0, x3, x4, H => s_triuneref07_long_B0 n fl (s_triuneref07_long_L0 n fl k m) k x0 x3 x4 H
theorem s_triuneref07_long_S0 (n fl m : Nat) (k : Ex → KF) (x0 x3 x4 : DV) (H : Heap) : loopG [0, 3, 4] [3] 24 (s_triuneref07_long_b0 n fl) (m + 1) (s_triuneref07_long_I0 x0 x3 x4) H k = s_triuneref07_long_B0 n fl (fun x0 x3 x4 H => loopG [0, 3, 4] [3] 24 (s_triuneref07_long_b0 n fl) m (s_triuneref07_long_I0 x0 x3 x4) H k) k x0 x3 x4 H := by kernel_rfl
theorem s_triuneref07_long_L0_eq (n fl : Nat) (k : Ex → KF) : ∀ (m : Nat) (x0 x3 x4 : DV) (H : Heap), loopG [0, 3, 4] [3] 24 (s_triuneref07_long_b0 n fl) m (s_triuneref07_long_I0 x0 x3 x4) H k = s_triuneref07_long_L0 n fl k m x0 x3 x4 H := by
  intro m
  induction m with
  | zero => intros; rfl
  | succ m ih =>
    intro x0 x3 x4 H
    rw [s_triuneref07_long_S0, show (fun x0 x3 x4 H => loopG [0, 3, 4] [3] 24 (s_triuneref07_long_b0 n fl) m (s_triuneref07_long_I0 x0 x3 x4) H k) = s_triuneref07_long_L0 n fl k m from by funext x0 x3 x4 H; exact ih _ _ _ _]
    rw [s_triuneref07_long_L0]
noncomputable def s_triuneref07_long (n : Nat) (H : Heap) (fl : Nat) (a0 : DV) : R :=
  loopG [0, 3, 4] [3] 24 (s_triuneref07_long_b0 n fl) n (s_triuneref07_long_I0 a0 (I .i64 7) (I .i64 0)) H fun x S0 h0 => match x with
  | .normal => none
  | .exit i0 => (
  if i0 = 0 then (
  some ((S0.getD 3 .any), h0)) else (
  none))
  | .ret => (
  some (.any, h0))
theorem s_triuneref07_long_eq (n : Nat) (H : Heap) (fl : Nat) (a0 : DV) : callG Try.prog ENV (n + 1) 35 [a0] H fl = s_triuneref07_long n H fl a0 := by kernel_rfl

/-! triune/triuneref07.Large -/
noncomputable def s_triuneref07_Large (n : Nat) (H : Heap) (fl : Nat) (a0 : DV) : R :=
  bi (allocG 57 a0 (List.length H) (H ++ [.hole])) fun h0 =>
  bi (loadG false 1 (.ptr (List.length H) 1) h0) fun d1 =>
  bi (lenD d1) fun d2 =>
  bi (gtK .i64 d2 (I .i64 3000)) fun d3 =>
  bi (wantF d3 false (some (.ptr (List.length H) 2))) fun d4 =>
  bi (wantF d3 false (loadG false 1 d4 h0)) fun d5 =>
  bi (wantF d3 false (lenD d5)) fun d6 =>
  bi (wantF d3 false (gtK .i64 d6 (I .i64 300))) fun d7 =>
  bi (pickD d3 (Bo true) d7) fun d8 =>
  bi (wantF d8 false (some (.ptr (List.length H) 3))) fun d9 =>
  bi (wantF d8 false (loadG false 1 d9 h0)) fun d10 =>
  bi (wantF d8 false (lenD d10)) fun d11 =>
  bi (wantF d8 false (gtK .i64 d11 (I .i64 300))) fun d12 =>
  bi (pickD d8 (Bo true) d12) fun d13 =>
  bi (wantF d13 false (some (.ptr (List.length H) 3))) fun d14 =>
  bi (wantF d13 false (loadG false 1 d14 h0)) fun d15 =>
  bi (wantF d13 false (cP n 35 false [d15])) fun d16 =>
  bi (wantF d13 false (gtK .i64 d16 (I .i64 900))) fun d17 =>
  bi (pickD d13 (Bo true) d17) fun d18 =>
  some (d18, h0)
theorem s_triuneref07_Large_eq (n : Nat) (H : Heap) (fl : Nat) (a0 : DV) : callG Try.prog ENV (n + 1) 17 [a0] H fl = s_triuneref07_Large n H fl a0 := by kernel_rfl

end Go.Proofs.Ytcpgmbpndpcmdaa

/- Answers: the document's long, Large. -/
namespace Go.Proofs.Ytcpgmbpndpcmdaa
open Go
set_option linter.unusedSimpArgs false
set_option linter.unusedVariables false
/-- how many bytes texts have -/
def longI : Int → List ByteArray → Int
  | n, [] => n
  | n, s :: r => if n < 1000 then longI (n + 2 + (s.size : Int)) r else n
theorem long_L (n fl : Nat) (K : Ex → KF) (l : List ByteArray) (t : Tag) (hs : ∀ s ∈ l, s.size ≤ 281474976710656) (hl : l.length ≤ 100000) : ∀ (m i : Nat) (acc : Int) (H : Heap), l.length < m + i → i ≤ l.length → 0 ≤ acc → acc ≤ 281474976712000 →
    s_triuneref07_long_L0 n fl K m (LV 1 Sg l t) (I .i64 acc) (I .i64 i) H = K (.exit 0) (s_triuneref07_long_O0 (I .i64 (longI acc (l.drop i)))) H := by
  intro m
  induction m with
  | zero => intro i acc H h; omega
  | succ m ih =>
    intro i acc H hm hi h0 h1
    unfold s_triuneref07_long_L0 s_triuneref07_long_B0
    by_cases h : i < l.length
    · have hz := hs _ (List.getElem_mem h)
      have hls : lenStr (Sg l[i]) = some (I .i64 (l[i].size : Int)) := rfl
      rw [List.drop_eq_getElem_cons h]
      have hi2 : ((i + 1 : Nat) : Int) = (i : Int) + 1 := by omega
      by_cases c1 : acc < 1000
      · have e : longI acc (l[i] :: l.drop (i + 1)) = longI (acc + 2 + (l[i].size : Int)) (l.drop (i + 1)) := by conv => lhs; unfold longI; rw [if_pos c1]
        rw [e]
        have ih' := ih (i + 1) (acc + 2 + (l[i].size : Int)) H (by omega) (by omega) (by omega) (by omega)
        rw [hi2] at ih'
        simp -implicitDefEqProofs (disch := first | omega | (simp only [List.length_set, List.length_append, List.length_cons, List.length_nil, List.length_take, List.length_drop, List.length_map]; omega) | simp) [wrap_i64, wrap_u16_id, wrap_u8_id, tdiv_pos, tmod_pos, -getElem?_pos, -getElem?_neg, -List.length_eq_zero_iff, -List.getElem_cons_drop, h, hls, c1, ih']
      · have e : longI acc (l[i] :: l.drop (i + 1)) = acc := by unfold longI; rw [if_neg c1]
        rw [e]
        simp -implicitDefEqProofs (disch := first | omega | (simp only [List.length_set, List.length_append, List.length_cons, List.length_nil, List.length_take, List.length_drop, List.length_map]; omega) | simp) [wrap_i64, wrap_u16_id, wrap_u8_id, tdiv_pos, tmod_pos, -getElem?_pos, -getElem?_neg, -List.length_eq_zero_iff, -List.getElem_cons_drop, h, hls, c1]
    · have : i = l.length := by omega
      subst this
      rw [List.drop_length]
      simp -implicitDefEqProofs (disch := first | omega | (simp only [List.length_set, List.length_append, List.length_cons, List.length_nil, List.length_take, List.length_drop, List.length_map]; omega) | simp) [wrap_i64, wrap_u16_id, wrap_u8_id, tdiv_pos, tmod_pos, -getElem?_pos, -getElem?_neg, -List.length_eq_zero_iff, -List.getElem_cons_drop, longI]
theorem long_c (n : Nat) (l : List ByteArray) (t : Tag) (hs : ∀ s ∈ l, s.size ≤ 281474976710656) (hl : l.length ≤ 100000) (hn : l.length + 4 ≤ n) : cP n 35 false [LV 1 Sg l t] = some (I .i64 (longI 7 l)) := by
  obtain ⟨n, rfl⟩ : ∃ m, n = m + 1 := ⟨n - 1, by omega⟩
  have q : ∀ K, loopG [0, 3, 4] [3] 24 (s_triuneref07_long_b0 n 0) n (s_triuneref07_long_I0 (LV 1 Sg l .sh) (I .i64 7) (I .i64 0)) [] K = _ := fun K => (s_triuneref07_long_L0_eq _ _ _ _ _ _ _ _).trans (long_L n 0 K l .sh hs hl n 0 7 [] (by omega) (by omega) (by omega) (by omega))
  rw [List.drop_zero] at q
  exact cP_of (r := I .i64 (longI 7 l)) (args' := [LV 1 Sg l .sh]) (by simp [argEl_eq]) ((s_triuneref07_long_eq _ _ _ _).trans (by unfold s_triuneref07_long; simp -implicitDefEqProofs (disch := first | omega | (simp only [List.length_set, List.length_append, List.length_cons, List.length_nil, List.length_take, List.length_drop, List.length_map]; omega) | simp) [wrap_i64, wrap_u16_id, wrap_u8_id, tdiv_pos, tmod_pos, -getElem?_pos, -getElem?_neg, -List.length_eq_zero_iff, -List.getElem_cons_drop, q, s_triuneref07_long_O0]; first | exact rfl | exact ⟨rfl, rfl⟩)) (by simp)
def anLarge (x : An) : Bool := decide (3000 < x.bits.length) || decide (300 < x.words.length) || decide (300 < x.texts.length) || decide (900 < longI 7 x.texts)
theorem ref07_Large_c (n : Nat) (x : An) (t1 t2 t3 : Tag) (hs : ∀ s ∈ x.texts, s.size ≤ 281474976710656) (hn : 400 ≤ n) : cP n 17 false [anE x t1 t2 t3] = some (Bo (anLarge x)) := by
  obtain ⟨n, rfl⟩ : ∃ m, n = m + 1 := ⟨n - 1, by omega⟩
  have go : ∀ r, anLarge x = r → (∃ H', s_triuneref07_Large n [] 0 (anE x .sh .sh .sh) = some (Bo r, H')) → cP (n + 1) 17 false [anE x t1 t2 t3] = some (Bo (anLarge x)) := by
    intro r h1 ⟨H', h⟩
    rw [h1]
    exact cP_of (r := Bo r) (args' := [anE x .sh .sh .sh]) (by simp [argEl_eq, anE]) ((s_triuneref07_Large_eq _ _ _ _).trans h) (by simp)
  by_cases c1 : 3000 < x.bits.length
  · refine go true (by unfold anLarge; simp [c1]) ?_
    exact ⟨_, by unfold s_triuneref07_Large anE; simp -implicitDefEqProofs (disch := first | omega | (simp only [List.length_set, List.length_append, List.length_cons, List.length_nil, List.length_take, List.length_drop, List.length_map]; omega) | simp) [wrap_i64, wrap_u16_id, wrap_u8_id, tdiv_pos, tmod_pos, -getElem?_pos, -getElem?_neg, -List.length_eq_zero_iff, -List.getElem_cons_drop, c1]; rfl⟩
  by_cases c2 : 300 < x.words.length
  · refine go true (by unfold anLarge; simp [c2]) ?_
    exact ⟨_, by unfold s_triuneref07_Large anE; simp -implicitDefEqProofs (disch := first | omega | (simp only [List.length_set, List.length_append, List.length_cons, List.length_nil, List.length_take, List.length_drop, List.length_map]; omega) | simp) [wrap_i64, wrap_u16_id, wrap_u8_id, tdiv_pos, tmod_pos, -getElem?_pos, -getElem?_neg, -List.length_eq_zero_iff, -List.getElem_cons_drop, c1, c2]; rfl⟩
  by_cases c3 : 300 < x.texts.length
  · refine go true (by unfold anLarge; simp [c3]) ?_
    exact ⟨_, by unfold s_triuneref07_Large anE; simp -implicitDefEqProofs (disch := first | omega | (simp only [List.length_set, List.length_append, List.length_cons, List.length_nil, List.length_take, List.length_drop, List.length_map]; omega) | simp) [wrap_i64, wrap_u16_id, wrap_u8_id, tdiv_pos, tmod_pos, -getElem?_pos, -getElem?_neg, -List.length_eq_zero_iff, -List.getElem_cons_drop, c1, c2, c3]; rfl⟩
  have k := long_c n x.texts .sh hs (by omega) (by omega)
  refine go (decide (900 < longI 7 x.texts)) (by unfold anLarge; simp [c1, c2, c3]) ?_
  exact ⟨_, by unfold s_triuneref07_Large anE; simp -implicitDefEqProofs (disch := first | omega | (simp only [List.length_set, List.length_append, List.length_cons, List.length_nil, List.length_take, List.length_drop, List.length_map]; omega) | simp) [wrap_i64, wrap_u16_id, wrap_u8_id, tdiv_pos, tmod_pos, -getElem?_pos, -getElem?_neg, -List.length_eq_zero_iff, -List.getElem_cons_drop, c1, c2, c3, k]; rfl⟩
theorem longI_ge : ∀ (l : List ByteArray) (n : Int), n ≤ longI n l
  | [], n => by simp [longI]
  | s :: l, n => by
    unfold longI
    split
    · have := longI_ge l (n + 2 + (s.size : Int))
      omega
    · exact Int.le_refl _
end Go.Proofs.Ytcpgmbpndpcmdaa

/- Go functions as Lean functions on deep values; printed by a program of mine. -/
namespace Go.Proofs.Ytcpgmbpndpcmdaa
open Go
set_option maxRecDepth 100000
set_option linter.unusedVariables false
/-! slices.Equal[[]string,string] -/
def s_slices_Equal___string_string__I0 (x0 x1 x12 x13 : DV) : List DV := [x0, x1, .any, .any, .any, .any, .any, .any, .any, .any, .any, .any, x12, x13, .any, .any, .any, .any, .any, .any, .any, .any, .any, .any, .any, .any]
def s_slices_Equal___string_string__O0 (x4 : DV) : List DV := [.any, .any, .any, .any, x4, .any, .any, .any, .any, .any, .any, .any, .any, .any, .any, .any, .any, .any, .any, .any, .any, .any, .any, .any, .any, .any]
noncomputable abbrev s_slices_Equal___string_string__b0 (n fl : Nat) : List DV → Heap → (Ex → KF) → R := execG ⟨Try.prog, callG Try.prog ENV n, ENV.md, fl, 26⟩ n (loopAt (bodyOf Try.f42) 0) []
noncomputable def s_slices_Equal___string_string__B0 (n fl : Nat) (rec : DV → DV → DV → DV → Heap → R) (k : Ex → KF) (x0 x1 x12 x13 : DV) (H : Heap) : R :=
  bi (ltK .i64 x13 x12) fun d0 =>
  condR d0 (
  bi (idxSl 1 x0 x13) fun d1 =>
  bi (loadG false 1 d1 H) fun d2 =>
  bi (idxSl 1 x1 x13) fun d3 =>
  bi (loadG false 1 d3 H) fun d4 =>
  bi (neS d2 d4) fun d5 =>
  condR d5 (
  k .ret (s_slices_Equal___string_string__O0 (Bo false)) H) (
  bi (addK .i64 x13 (I .i64 1)) fun d6 =>
  rec x0 x1 x12 d6 H)) (
  k (.exit 0) (s_slices_Equal___string_string__O0 .any) H)
noncomputable def s_slices_Equal___string_string__L0 (n fl : Nat) (k : Ex → KF) : Nat → DV → DV → DV → DV → Heap → R
  | 0, _, _, _, _, _ => none
  | m + 1, x0, x1, x12, x13, H => s_slices_Equal___string_string__B0 n fl (s_slices_Equal___string_string__L0 n fl k m) k x0 x1 x12 x13 H
theorem s_slices_Equal___string_string__S0 (n fl m : Nat) (k : Ex → KF) (x0 x1 x12 x13 : DV) (H : Heap) : loopG [0, 1, 12, 13] [4] 26 (s_slices_Equal___string_string__b0 n fl) (m + 1) (s_slices_Equal___string_string__I0 x0 x1 x12 x13) H k = s_slices_Equal___string_string__B0 n fl (fun x0 x1 x12 x13 H => loopG [0, 1, 12, 13] [4] 26 (s_slices_Equal___string_string__b0 n fl) m (s_slices_Equal___string_string__I0 x0 x1 x12 x13) H k) k x0 x1 x12 x13 H := by kernel_rfl
theorem s_slices_Equal___string_string__L0_eq (n fl : Nat) (k : Ex → KF) : ∀ (m : Nat) (x0 x1 x12 x13 : DV) (H : Heap), loopG [0, 1, 12, 13] [4] 26 (s_slices_Equal___string_string__b0 n fl) m (s_slices_Equal___string_string__I0 x0 x1 x12 x13) H k = s_slices_Equal___string_string__L0 n fl k m x0 x1 x12 x13 H := by
  intro m
  induction m with
  | zero => intros; rfl
  | succ m ih =>
    intro x0 x1 x12 x13 H
    rw [s_slices_Equal___string_string__S0, show (fun x0 x1 x12 x13 H => loopG [0, 1, 12, 13] [4] 26 (s_slices_Equal___string_string__b0 n fl) m (s_slices_Equal___string_string__I0 x0 x1 x12 x13) H k) = s_slices_Equal___string_string__L0 n fl k m from by funext x0 x1 x12 x13 H; exact ih _ _ _ _ _]
    rw [s_slices_Equal___string_string__L0]
noncomputable def s_slices_Equal___string_string_ (n : Nat) (H : Heap) (fl : Nat) (a0 a1 : DV) : R :=
  bi (lenD a0) fun d0 =>
  bi (lenD a1) fun d1 =>
  bi (neK .i64 d0 d1) fun d2 =>
  condR d2 (
  some ((Bo false), H)) (
  bi (lenD a0) fun d3 =>
  loopG [0, 1, 12, 13] [4] 26 (s_slices_Equal___string_string__b0 n fl) n (s_slices_Equal___string_string__I0 a0 a1 d3 (I .i64 0)) H fun x S4 h4 => match x with
  | .normal => none
  | .exit i4 => (
  if i4 = 0 then (
  some ((Bo true), h4)) else (
  none))
  | .ret => (
  some ((S4.getD 4 .any), h4)))
theorem s_slices_Equal___string_string__eq (n : Nat) (H : Heap) (fl : Nat) (a0 a1 : DV) : callG Try.prog ENV (n + 1) 42 [a0, a1] H fl = s_slices_Equal___string_string_ n H fl a0 a1 := by kernel_rfl

/-! triune/answer.Same -/
noncomputable def s_answer_Same (n : Nat) (H : Heap) (fl : Nat) (a0 a1 : DV) : R :=
  bi (allocG 48 a0 (List.length H) (H ++ [.hole, .hole])) fun h0 =>
  bi (allocG 48 a1 (List.length H + 1) h0) fun h1 =>
  bi (loadG false 1 (.ptr (List.length H) 0) h1) fun d2 =>
  bi (loadG false 1 (.ptr (List.length H + 1) 0) h1) fun d3 =>
  bi (eqK .i64 d2 d3) fun d4 =>
  bi (wantF d4 true (some (.ptr (List.length H) 1))) fun d5 =>
  bi (wantF d4 true (loadG false 1 d5 h1)) fun d6 =>
  bi (wantF d4 true (some (.ptr (List.length H + 1) 1))) fun d7 =>
  bi (wantF d4 true (loadG false 1 d7 h1)) fun d8 =>
  bi (wantF d4 true (cP n 40 false [d6, d8])) fun d9 =>
  bi (pickD d4 d9 (Bo false)) fun d10 =>
  bi (wantF d10 true (some (.ptr (List.length H) 2))) fun d11 =>
  bi (wantF d10 true (loadG false 1 d11 h1)) fun d12 =>
  bi (wantF d10 true (some (.ptr (List.length H + 1) 2))) fun d13 =>
  bi (wantF d10 true (loadG false 1 d13 h1)) fun d14 =>
  bi (wantF d10 true (cP n 41 false [d12, d14])) fun d15 =>
  bi (pickD d10 d15 (Bo false)) fun d16 =>
  bi (wantF d16 true (some (.ptr (List.length H) 3))) fun d17 =>
  bi (wantF d16 true (loadG false 1 d17 h1)) fun d18 =>
  bi (wantF d16 true (some (.ptr (List.length H + 1) 3))) fun d19 =>
  bi (wantF d16 true (loadG false 1 d19 h1)) fun d20 =>
  bi (wantF d16 true (cP n 42 false [d18, d20])) fun d21 =>
  bi (pickD d16 d21 (Bo false)) fun d22 =>
  some (d22, h1)
theorem s_answer_Same_eq (n : Nat) (H : Heap) (fl : Nat) (a0 a1 : DV) : callG Try.prog ENV (n + 1) 19 [a0, a1] H fl = s_answer_Same n H fl a0 a1 := by kernel_rfl

end Go.Proofs.Ytcpgmbpndpcmdaa

/- Answers compared. -/
namespace Go.Proofs.Ytcpgmbpndpcmdaa
open Go
set_option linter.unusedSimpArgs false
set_option linter.unusedVariables false
set_option maxRecDepth 100000
theorem str_eq (a b : ByteArray) : (a.toList == b.toList) = decide (a = b) := by
  rw [Bool.eq_iff_iff]
  simp only [beq_iff_eq, decide_eq_true_eq]
  constructor
  · intro h
    rw [ByteArray.toList_eq, ByteArray.toList_eq] at h
    cases a; cases b
    simpa using h
  · rintro rfl; rfl
@[simp] theorem neS_Sg (a b : ByteArray) : neS (Sg a) (Sg b) = some (Bo (!decide (a = b))) := by
  show some (DV.flat (.bool (!(a.toList == b.toList)))) = _
  rw [str_eq]
theorem eqS_L (n fl : Nat) (k : Ex → KF) (l1 l2 : List ByteArray) (hl : l1.length = l2.length) (hl1 : l1.length ≤ 1000000) : ∀ (m i : Nat) (H : Heap), l1.length < m + i → i ≤ l1.length →
    s_slices_Equal___string_string__L0 n fl k m (LV 1 Sg l1 .sh) (LV 1 Sg l2 .sh) (I .i64 l1.length) (I .i64 i) H = if l1.drop i = l2.drop i then k (.exit 0) (s_slices_Equal___string_string__O0 .any) H else k .ret (s_slices_Equal___string_string__O0 (Bo false)) H := by
  intro m
  induction m with
  | zero => intro i H h; omega
  | succ m ih =>
    intro i H hm hi
    unfold s_slices_Equal___string_string__L0 s_slices_Equal___string_string__B0
    by_cases h : i < l1.length
    · have d1 : l1.drop i = l1[i] :: l1.drop (i + 1) := List.drop_eq_getElem_cons h
      have d2 : l2.drop i = l2[i] :: l2.drop (i + 1) := List.drop_eq_getElem_cons (by omega)
      have h' : i < l2.length := by omega
      rw [d1, d2]
      by_cases e : l1[i] = l2[i]
      · have ih' := ih (i + 1) H (by omega) (by omega)
        have hi2 : ((i + 1 : Nat) : Int) = (i : Int) + 1 := by omega
        rw [hi2] at ih'
        simp -implicitDefEqProofs (disch := first | omega | (simp only [List.length_set, List.length_append, List.length_cons, List.length_nil, List.length_take, List.length_drop, List.length_map]; omega) | simp) [wrap_i64, wrap_u16_id, wrap_u8_id, tdiv_pos, tmod_pos, -getElem?_pos, -getElem?_neg, -List.length_eq_zero_iff, -List.getElem_cons_drop, h, h', e, ih']
      · simp -implicitDefEqProofs (disch := first | omega | (simp only [List.length_set, List.length_append, List.length_cons, List.length_nil, List.length_take, List.length_drop, List.length_map]; omega) | simp) [wrap_i64, wrap_u16_id, wrap_u8_id, tdiv_pos, tmod_pos, -getElem?_pos, -getElem?_neg, -List.length_eq_zero_iff, -List.getElem_cons_drop, h, h', e]
    · have d1 : l1.drop i = [] := by simp; omega
      have d2 : l2.drop i = [] := by simp; omega
      rw [d1, d2, if_pos rfl]
      simp -implicitDefEqProofs (disch := first | omega | (simp only [List.length_set, List.length_append, List.length_cons, List.length_nil, List.length_take, List.length_drop, List.length_map]; omega) | simp) [wrap_i64, wrap_u16_id, wrap_u8_id, tdiv_pos, tmod_pos, -getElem?_pos, -getElem?_neg, -List.length_eq_zero_iff, -List.getElem_cons_drop, h]
theorem eqS_c (n : Nat) (l1 l2 : List ByteArray) (t1 t2 : Tag) (hl1 : l1.length ≤ 1000000) (hn : l1.length + 2 ≤ n) : cP n 42 false [LV 1 Sg l1 t1, LV 1 Sg l2 t2] = some (Bo (decide (l1 = l2))) := by
  obtain ⟨n, rfl⟩ : ∃ m, n = m + 1 := ⟨n - 1, by omega⟩
  by_cases hl : l1.length = l2.length
  · have q : ∀ K, loopG [0, 1, 12, 13] [4] 26 (s_slices_Equal___string_string__b0 n 0) n (s_slices_Equal___string_string__I0 (LV 1 Sg l1 .sh) (LV 1 Sg l2 .sh) (I .i64 l1.length) (I .i64 0)) [] K = _ := fun K => (s_slices_Equal___string_string__L0_eq _ _ _ _ _ _ _ _ _).trans (eqS_L n 0 K l1 l2 hl hl1 n 0 [] (by omega) (by omega))
    by_cases e : l1 = l2
    · have q2 := fun K => (q K).trans (if_pos (by simp [e]))
      exact cP_of (r := Bo true) (args' := [LV 1 Sg l1 .sh, LV 1 Sg l2 .sh]) (by simp [argEl_eq]) ((s_slices_Equal___string_string__eq _ _ _ _ _).trans (by unfold s_slices_Equal___string_string_; simp -implicitDefEqProofs (disch := first | omega | (simp only [List.length_set, List.length_append, List.length_cons, List.length_nil, List.length_take, List.length_drop, List.length_map]; omega) | simp) [wrap_i64, wrap_u16_id, wrap_u8_id, tdiv_pos, tmod_pos, -getElem?_pos, -getElem?_neg, -List.length_eq_zero_iff, -List.getElem_cons_drop, q2, s_slices_Equal___string_string__O0]; first | exact rfl | exact ⟨rfl, rfl⟩)) (by simp [e])
    · have q2 := fun K => (q K).trans (if_neg (by simpa using e))
      exact cP_of (r := Bo false) (args' := [LV 1 Sg l1 .sh, LV 1 Sg l2 .sh]) (by simp [argEl_eq]) ((s_slices_Equal___string_string__eq _ _ _ _ _).trans (by unfold s_slices_Equal___string_string_; simp -implicitDefEqProofs (disch := first | omega | (simp only [List.length_set, List.length_append, List.length_cons, List.length_nil, List.length_take, List.length_drop, List.length_map]; omega) | simp) [wrap_i64, wrap_u16_id, wrap_u8_id, tdiv_pos, tmod_pos, -getElem?_pos, -getElem?_neg, -List.length_eq_zero_iff, -List.getElem_cons_drop, q2, s_slices_Equal___string_string__O0]; first | exact rfl | exact ⟨rfl, rfl⟩)) (by simp [e])
  · have e : ¬ l1 = l2 := fun h => hl (by rw [h])
    exact cP_of (r := Bo false) (args' := [LV 1 Sg l1 .sh, LV 1 Sg l2 .sh]) (by simp [argEl_eq]) ((s_slices_Equal___string_string__eq _ _ _ _ _).trans (by unfold s_slices_Equal___string_string_; simp -implicitDefEqProofs (disch := first | omega | (simp only [List.length_set, List.length_append, List.length_cons, List.length_nil, List.length_take, List.length_drop, List.length_map]; omega) | simp) [wrap_i64, wrap_u16_id, wrap_u8_id, tdiv_pos, tmod_pos, -getElem?_pos, -getElem?_neg, -List.length_eq_zero_iff, -List.getElem_cons_drop]; first | exact rfl | exact ⟨rfl, rfl⟩)) (by simp [e])
theorem ansSame_c (n : Nat) (x y : An) (t1 t2 t3 u1 u2 u3 : Tag) (hb : x.bits.length ≤ 10000) (hw : x.words.length ≤ 10000) (ht : x.texts.length ≤ 10000) (hn : 10010 ≤ n) : cP n 19 false [anE x t1 t2 t3, anE y u1 u2 u3] = some (Bo (decide (x.exc = y.exc) && decide (x.bits = y.bits) && decide (x.words = y.words) && decide (x.texts = y.texts))) := by
  obtain ⟨n, rfl⟩ : ∃ m, n = m + 1 := ⟨n - 1, by omega⟩
  have k1 := eqB_c n x.bits y.bits .sh .sh (by omega) (by omega)
  have k2 := eq16_c n x.words y.words .sh .sh (by omega) (by omega)
  have k3 := eqS_c n x.texts y.texts .sh .sh (by omega) (by omega)
  have go : ∀ r, (∃ H', s_answer_Same n [] 0 (anE x .sh .sh .sh) (anE y .sh .sh .sh) = some (Bo r, H')) → cP (n + 1) 19 false [anE x t1 t2 t3, anE y u1 u2 u3] = some (Bo r) := by
    intro r ⟨H', h⟩
    exact cP_of (r := Bo r) (args' := [anE x .sh .sh .sh, anE y .sh .sh .sh]) (by simp [argEl_eq, anE]) ((s_answer_Same_eq _ _ _ _ _).trans h) (by simp)
  generalize decide (x.bits = y.bits) = b1 at *
  generalize decide (x.words = y.words) = b2 at *
  generalize decide (x.texts = y.texts) = b3 at *
  by_cases c0 : x.exc = y.exc
  · rw [decide_eq_true c0]
    cases b1
    · refine go false ?_
      exact ⟨_, by unfold s_answer_Same anE at *; simp -implicitDefEqProofs (disch := first | omega | (simp only [List.length_set, List.length_append, List.length_cons, List.length_nil, List.length_take, List.length_drop, List.length_map]; omega) | simp) [wrap_i64, wrap_u16_id, wrap_u8_id, tdiv_pos, tmod_pos, -getElem?_pos, -getElem?_neg, -List.length_eq_zero_iff, -List.getElem_cons_drop, c0, k1]; rfl⟩
    cases b2
    · refine go false ?_
      exact ⟨_, by unfold s_answer_Same anE at *; simp -implicitDefEqProofs (disch := first | omega | (simp only [List.length_set, List.length_append, List.length_cons, List.length_nil, List.length_take, List.length_drop, List.length_map]; omega) | simp) [wrap_i64, wrap_u16_id, wrap_u8_id, tdiv_pos, tmod_pos, -getElem?_pos, -getElem?_neg, -List.length_eq_zero_iff, -List.getElem_cons_drop, c0, k1, k2]; rfl⟩
    · refine go b3 ?_
      exact ⟨_, by unfold s_answer_Same anE at *; simp -implicitDefEqProofs (disch := first | omega | (simp only [List.length_set, List.length_append, List.length_cons, List.length_nil, List.length_take, List.length_drop, List.length_map]; omega) | simp) [wrap_i64, wrap_u16_id, wrap_u8_id, tdiv_pos, tmod_pos, -getElem?_pos, -getElem?_neg, -List.length_eq_zero_iff, -List.getElem_cons_drop, c0, k1, k2, k3]; rfl⟩
  · rw [decide_eq_false c0]
    refine go false ?_
    exact ⟨_, by unfold s_answer_Same anE at *; simp -implicitDefEqProofs (disch := first | omega | (simp only [List.length_set, List.length_append, List.length_cons, List.length_nil, List.length_take, List.length_drop, List.length_map]; omega) | simp) [wrap_i64, wrap_u16_id, wrap_u8_id, tdiv_pos, tmod_pos, -getElem?_pos, -getElem?_neg, -List.length_eq_zero_iff, -List.getElem_cons_drop, c0]; rfl⟩
end Go.Proofs.Ytcpgmbpndpcmdaa

/- Answers: the law's awake; the arguments' shapes. -/
namespace Go.Proofs.Ytcpgmbpndpcmdaa
open Go
set_option linter.unusedSimpArgs false
set_option linter.unusedVariables false
end Go.Proofs.Ytcpgmbpndpcmdaa

/- Answers that come in; what the laws ask of them, in plain words. -/
namespace Go.Proofs.Ytcpgmbpndpcmdaa
open Go
set_option linter.unusedSimpArgs false
set_option linter.unusedVariables false
structure AnTy (x : An) : Prop where
  w : Words x.words
  c : -9223372036854775808 ≤ x.exc ∧ x.exc < 9223372036854775808
  s : ∀ s ∈ x.texts, s.size ≤ 281474976710656
theorem long_size : ∀ (l : List ByteArray) (n : Int), 0 ≤ n → n ≤ 900 → longI n l ≤ 900 → ∀ s ∈ l, s.size ≤ 900
  | [], _, _, _, _ => by simp
  | s :: l, n, h0, h1, h => by
    unfold longI at h
    rw [if_pos (by omega)] at h
    have hg := longI_ge l (n + 2 + (s.size : Int))
    intro t ht
    rcases List.mem_cons.1 ht with rfl | ht
    · omega
    · exact long_size l _ (by omega) (by omega) h t ht
theorem large_open {x : An} (h : anLarge x = false) : x.bits.length ≤ 3000 ∧ x.words.length ≤ 300 ∧ x.texts.length ≤ 300 ∧ longI 7 x.texts ≤ 900 := by
  unfold anLarge at h
  simp only [Bool.or_eq_false_iff, decide_eq_false_iff_not] at h
  omega
theorem AnTy.ok {x : An} (h : AnTy x) (hl : anLarge x = false) : AnOk x := by
  obtain ⟨h1, h2, h3, h4⟩ := large_open hl
  exact ⟨h.w, fun s hs => Nat.le_trans (long_size x.texts 7 (by omega) (by omega) h4 s hs) (by decide), by omega⟩
theorem shp_sg {d : Nat} {e : List DV} (h : Shp Try.prog (d + 1) 9 e) : ∃ b : ByteArray, elOf (isAgT Try.prog 9) e = Sg b ∧ b.size ≤ 281474976710656 := by
  obtain ⟨b, rfl, hb⟩ := shp_string Try.underlying9 h
  exact ⟨b, by kernel_rfl, Nat.le_trans hb (by decide)⟩
theorem shp_an {d : Nat} {e : List DV} (h : Shp Try.prog (d + 3) 48 e) : ∃ x : An, elOf (isAgT Try.prog 48) e = anE x .sh .sh .sh ∧ AnTy x := by
  have h := shp_struct Try.underlying48 h
  simp only [List.map_cons, List.map_nil, ShpFs] at h
  obtain ⟨a, _, rfl, ha, i, _, rfl, hi, g, _, rfl, hg, t, _, rfl, ht, rfl⟩ := h
  obtain ⟨a, rfl, wa⟩ := shp_int (k := .i64) Try.underlying3 ha
  obtain ⟨i, rfl, _, _⟩ := shp_slice (e := 4) Bo (fun _ => True) (sz := 1) Try.underlying25 (by kernel_rfl) (fun x hx => shp_bo hx) hi
  obtain ⟨g, rfl, _, wg⟩ := shp_ints (k := .u16) Try.underlying24 Try.underlying26 (by kernel_rfl) hg
  obtain ⟨t, rfl, _, wt⟩ := shp_slice (e := 9) Sg (fun s => s.size ≤ 281474976710656) (sz := 1) Try.underlying46 (by kernel_rfl) (fun x hx => shp_sg hx) ht
  exact ⟨⟨a, i, g, t⟩, by kernel_rfl, ⟨fun x hx => wf_u16 (wg x hx), wf_i64 wa, wt⟩⟩
theorem read_text (a : Rq) (x : An) (ok : AnOk x) (h : ansV a x = true) : ansReadV a (ansTextV a x) = (x, 0) := by
  unfold ansReadV
  rw [if_pos (ansV_open h).1, guess_back a x ok h, if_pos ⟨h, rfl⟩]
theorem nm_len (addr : Int) : ∀ (l : List ByteArray) (n : Int) (i : Nat), n ≤ 253 → fitT n l = true → n + ((nmI addr i l).length : Int) ≤ 253
  | [], n, i, h, _ => by simpa [nmI] using h
  | s :: l, n, i, h, hf => by
    unfold fitT at hf
    split at hf
    · cases hf
    · rename_i hc
      have ih := nm_len addr l _ (i + 1) (by omega) hf
      have hl := strI_len s
      simp only [nmI, cntI, List.length_cons, List.length_append]
      omega
theorem ansText_len (a : Rq) (x : An) (h : ansV a x = true) : 2 ≤ (ansTextV a x).length ∧ (ansTextV a x).length ≤ 253 := by
  obtain ⟨h0, h1, h2, h3, h4, h5⟩ := ansV_open h
  obtain ⟨l1, l2, l3, l4, _⟩ := formed_le a h0.1
  by_cases hx : 0 < x.exc
  · unfold ansTextV
    rw [if_pos hx]
    simp
  · have hz : x.exc = 0 := by omega
    have hq := fit_pos h0.1.2.1 (cntV_le _).1
    unfold ansTextV
    rw [if_neg hx]
    rcases rd_cases a.code with ⟨c1, c2, c3⟩ | ⟨c1, c2, c3⟩ | ⟨c1, c2, c3⟩ | ⟨c1, c2, c3⟩ <;> simp only [c1, c2, c3, hz, and_true, if_true, Bool.false_eq_true, if_false, false_and, true_and] at h3 h4 h5 ⊢
    · have := pkI_length x.bits
      simp only [cntI, List.length_cons]
      omega
    · have := wbI_length x.words
      have : cntV a.code = 125 := by
        unfold rdWords at c2
        have := of_decide_eq_true c2
        unfold cntV
        rw [if_neg (by omega), if_pos this]
      simp only [cntI, List.length_cons]
      omega
    · obtain ⟨k1, k2, k3, k4⟩ := fitA_open h5
      have := nm_len a.addr x.texts 7 0 (by omega) k4
      simp only [namedV, List.length_cons, List.length_append, List.length_nil]
      omega
    · have h5 := text_five a h0.1 (by simp [c1]) (by simp [c2]) (by simp [c3])
      have hm := text_most a h0.1
      split
      · rename_i e
        have := h5.2 e
        omega
      · rw [List.length_take]
        omega
end Go.Proofs.Ytcpgmbpndpcmdaa

/- A master: what its functions leave and answer. -/
-- ENV2
namespace Go.Proofs.Ytcpgmbpndpcmdaa
open Go
set_option linter.unusedSimpArgs false
set_option linter.unusedVariables false
set_option maxRecDepth 100000
/-- a master: whom it asks, how; its state; how long a bus is silent, and it does so; how often it tried; what it asks; what came -/
structure Mst where
  u : Int
  g : Int
  wt : Int
  tr : Int
  st : Int
  q : Int
  f : Int
  n : Int
  a : Rq
  came : List Int
def Mst.C (m : Mst) (t1 t2 t3 : Tag) : List DV := [I .u8 m.u, I .i64 m.g, I .i64 m.wt, I .i64 m.tr, I .i64 m.st, I .i64 m.q, I .i64 m.f, I .i64 m.n, I .i64 m.a.code, I .i64 m.a.addr, I .i64 m.a.cnt, I .i64 m.a.to_, LV 1 (I .u16) m.a.words t1, LV 1 Bo m.a.bits t2, I .u16 m.a.and_, I .u16 m.a.or_, LV 1 (I .u8) m.came t3]
def Mst.B (m : Mst) (t1 t2 t3 : Tag) : DBlk := .cells 62 (m.C t1 t2 t3)
def outE (k : Int) (x : An) (t1 t2 t3 : Tag) : DV := .agg [I .i64 k, I .i64 x.exc, LV 1 Bo x.bits t1, LV 1 (I .u16) x.words t2, LV 1 Sg x.texts t3]
def cfgE (u g wt tr : Int) : DV := .agg [I .u8 u, I .i64 g, I .i64 wt, I .i64 tr]
def CfgP (u g wt tr : Int) : Prop := (1 ≤ u ∧ u ≤ 247) ∧ (1 ≤ g ∧ g ≤ 20) ∧ (1 ≤ wt ∧ wt ≤ 1000) ∧ (1 ≤ tr ∧ tr ≤ 5)
instance (u g wt tr : Int) : Decidable (CfgP u g wt tr) := by unfold CfgP; infer_instance
theorem mWithin_c (n : Nat) (hn : 1 ≤ n) (x y : Int) : cP2 n 20 false [I .i64 x, I .i64 y] = some (Bo (decide (1 ≤ x ∧ x ≤ y))) := by
  obtain ⟨n, rfl⟩ : ∃ m, n = m + 1 := ⟨n - 1, by omega⟩
  refine cP2_of (H' := []) (args' := [I .i64 x, I .i64 y]) (r := Bo (decide (1 ≤ x ∧ x ≤ y))) (by simp [argEl_eq]; first | done | rfl) ((s_master_within_eq _ _ _ _ _).trans ?_) (by simp)
  unfold s_master_within
  by_cases c1 : 1 ≤ x
  · by_cases c2 : x ≤ y
    · simp -implicitDefEqProofs (disch := first | omega | (simp only [List.length_set, List.length_append, List.length_cons, List.length_nil, List.length_take, List.length_drop, List.length_map]; omega) | simp) [wrap_i64, wrap_u16_id, wrap_u8_id, tdiv_pos, tmod_pos, -getElem?_pos, -getElem?_neg, -List.length_eq_zero_iff, -List.getElem_cons_drop, c1, c2]
    · simp -implicitDefEqProofs (disch := first | omega | (simp only [List.length_set, List.length_append, List.length_cons, List.length_nil, List.length_take, List.length_drop, List.length_map]; omega) | simp) [wrap_i64, wrap_u16_id, wrap_u8_id, tdiv_pos, tmod_pos, -getElem?_pos, -getElem?_neg, -List.length_eq_zero_iff, -List.getElem_cons_drop, c1, c2]
  · simp -implicitDefEqProofs (disch := first | omega | (simp only [List.length_set, List.length_append, List.length_cons, List.length_nil, List.length_take, List.length_drop, List.length_map]; omega) | simp) [wrap_i64, wrap_u16_id, wrap_u8_id, tdiv_pos, tmod_pos, -getElem?_pos, -getElem?_neg, -List.length_eq_zero_iff, -List.getElem_cons_drop, c1]
theorem mRight_c (n : Nat) (hn : 2 ≤ n) (u g wt tr : Int) : cP2 n 7 false [cfgE u g wt tr] = some (Bo (decide (CfgP u g wt tr))) := by
  obtain ⟨n, rfl⟩ : ∃ m, n = m + 1 := ⟨n - 1, by omega⟩
  have w1 := mWithin_c n (by omega) g 20
  have w2 := mWithin_c n (by omega) wt 1000
  have w3 := mWithin_c n (by omega) tr 5
  have go : ∀ b, decide (CfgP u g wt tr) = b → (∃ H', s_master_Right n [] 0 (cfgE u g wt tr) = some (Bo b, H')) → cP2 (n + 1) 7 false [cfgE u g wt tr] = some (Bo (decide (CfgP u g wt tr))) := by
    intro b h1 ⟨H', h⟩
    rw [h1]
    exact cP2_of (args' := [cfgE u g wt tr]) (r := Bo b) (by simp [cfgE, argEl_eq]) ((s_master_Right_eq _ _ _ _).trans h) (by simp)
  unfold CfgP at go ⊢
  unfold s_master_Right cfgE at *
  by_cases c1 : 1 ≤ u
  · by_cases c2 : u ≤ 247
    · by_cases c3 : 1 ≤ g ∧ g ≤ 20
      · rw [decide_eq_true c3] at w1
        by_cases c4 : 1 ≤ wt ∧ wt ≤ 1000
        · rw [decide_eq_true c4] at w2
          by_cases c5 : 1 ≤ tr ∧ tr ≤ 5
          · rw [decide_eq_true c5] at w3
            exact go true (decide_eq_true ⟨⟨c1, c2⟩, c3, c4, c5⟩) ⟨_, by simp -implicitDefEqProofs (disch := first | omega | (simp only [List.length_set, List.length_append, List.length_cons, List.length_nil, List.length_take, List.length_drop, List.length_map]; omega) | simp) [wrap_i64, wrap_u16_id, wrap_u8_id, tdiv_pos, tmod_pos, -getElem?_pos, -getElem?_neg, -List.length_eq_zero_iff, -List.getElem_cons_drop, c1, c2, w1, w2, w3]; rfl⟩
          · rw [decide_eq_false c5] at w3
            exact go false (decide_eq_false fun h => c5 h.2.2.2) ⟨_, by simp -implicitDefEqProofs (disch := first | omega | (simp only [List.length_set, List.length_append, List.length_cons, List.length_nil, List.length_take, List.length_drop, List.length_map]; omega) | simp) [wrap_i64, wrap_u16_id, wrap_u8_id, tdiv_pos, tmod_pos, -getElem?_pos, -getElem?_neg, -List.length_eq_zero_iff, -List.getElem_cons_drop, c1, c2, w1, w2, w3]; rfl⟩
        · rw [decide_eq_false c4] at w2
          exact go false (decide_eq_false fun h => c4 h.2.2.1) ⟨_, by simp -implicitDefEqProofs (disch := first | omega | (simp only [List.length_set, List.length_append, List.length_cons, List.length_nil, List.length_take, List.length_drop, List.length_map]; omega) | simp) [wrap_i64, wrap_u16_id, wrap_u8_id, tdiv_pos, tmod_pos, -getElem?_pos, -getElem?_neg, -List.length_eq_zero_iff, -List.getElem_cons_drop, c1, c2, w1, w2]; rfl⟩
      · rw [decide_eq_false c3] at w1
        exact go false (decide_eq_false fun h => c3 h.2.1) ⟨_, by simp -implicitDefEqProofs (disch := first | omega | (simp only [List.length_set, List.length_append, List.length_cons, List.length_nil, List.length_take, List.length_drop, List.length_map]; omega) | simp) [wrap_i64, wrap_u16_id, wrap_u8_id, tdiv_pos, tmod_pos, -getElem?_pos, -getElem?_neg, -List.length_eq_zero_iff, -List.getElem_cons_drop, c1, c2, w1]; rfl⟩
    · exact go false (decide_eq_false fun h => c2 h.1.2) ⟨_, by simp -implicitDefEqProofs (disch := first | omega | (simp only [List.length_set, List.length_append, List.length_cons, List.length_nil, List.length_take, List.length_drop, List.length_map]; omega) | simp) [wrap_i64, wrap_u16_id, wrap_u8_id, tdiv_pos, tmod_pos, -getElem?_pos, -getElem?_neg, -List.length_eq_zero_iff, -List.getElem_cons_drop, c1, c2]; rfl⟩
  · exact go false (decide_eq_false fun h => c1 h.1.1) ⟨_, by simp -implicitDefEqProofs (disch := first | omega | (simp only [List.length_set, List.length_append, List.length_cons, List.length_nil, List.length_take, List.length_drop, List.length_map]; omega) | simp) [wrap_i64, wrap_u16_id, wrap_u8_id, tdiv_pos, tmod_pos, -getElem?_pos, -getElem?_neg, -List.length_eq_zero_iff, -List.getElem_cons_drop, c1]; rfl⟩
def cfgB (u g wt tr : Int) : DBlk := .cells 23 [I .u8 u, I .i64 g, I .i64 wt, I .i64 tr]
def mst0 (u g wt tr : Int) : Mst := ⟨u, g, wt, tr, 0, g, 0, 0, ⟨0, 0, 0, 0, [], [], 0, 0⟩, []⟩
theorem mNew_yes (n : Nat) (hn : 3 ≤ n) (u g wt tr : Int) (H : Heap) (fl : Nat) (hfl : fl ≤ H.length) (h : CfgP u g wt tr) :
    cK2 n 6 [cfgE u g wt tr] H fl = some (.tup [.ptr (H.length + 1) 0, I .i64 0], H ++ [cfgB u g wt tr, (mst0 u g wt tr).B .ti .ti .ti]) := by
  obtain ⟨n, rfl⟩ : ∃ m, n = m + 1 := ⟨n - 1, by omega⟩
  have e1 := mRight_c n (by omega) u g wt tr
  rw [decide_eq_true h] at e1
  unfold cK2
  refine (s_master_New_eq _ _ _ _).trans ?_
  unfold s_master_New cfgB mst0 Mst.B Mst.C
  unfold cfgE at *
  simp -implicitDefEqProofs (disch := first | omega | (simp only [List.length_set, List.length_append, List.length_cons, List.length_nil, List.length_take, List.length_drop, List.length_map]; omega) | simp) [wrap_i64, wrap_u16_id, wrap_u8_id, tdiv_pos, tmod_pos, -getElem?_pos, -getElem?_neg, -List.length_eq_zero_iff, -List.getElem_cons_drop, e1]
  all_goals (repeat' (first | rfl | apply And.intro))
theorem mNew_no (n : Nat) (hn : 3 ≤ n) (u g wt tr : Int) (H : Heap) (fl : Nat) (hfl : fl ≤ H.length) (h : ¬ CfgP u g wt tr) :
    cK2 n 6 [cfgE u g wt tr] H fl = some (.tup [.flat (.pointer none), I .i64 1], H ++ [cfgB u g wt tr]) := by
  obtain ⟨n, rfl⟩ : ∃ m, n = m + 1 := ⟨n - 1, by omega⟩
  have e1 := mRight_c n (by omega) u g wt tr
  rw [decide_eq_false h] at e1
  unfold cK2
  refine (s_master_New_eq _ _ _ _).trans ?_
  unfold s_master_New cfgB
  unfold cfgE at *
  simp -implicitDefEqProofs (disch := first | omega | (simp only [List.length_set, List.length_append, List.length_cons, List.length_nil, List.length_take, List.length_drop, List.length_map]; omega) | simp) [wrap_i64, wrap_u16_id, wrap_u8_id, tdiv_pos, tmod_pos, -getElem?_pos, -getElem?_neg, -List.length_eq_zero_iff, -List.getElem_cons_drop, e1]
theorem mBusy_c (n k : Nat) (hn : 1 ≤ n) (H : Heap) (m : Mst) (t1 t2 t3 : Tag) (hk : H[k]? = some (m.B t1 t2 t3)) : cO2 n 15 [.ptr k 0] H = some (Bo (decide (m.st ≠ 0))) := by
  obtain ⟨n, rfl⟩ : ∃ m, n = m + 1 := ⟨n - 1, by omega⟩
  have hkl := hp_lt hk
  unfold Mst.B Mst.C at hk
  refine cO2_of (H' := H) (r := Bo (decide (m.st ≠ 0))) ((s___master_Master__Busy_eq _ _ _ _).trans ?_) (by simp)
  unfold s___master_Master__Busy
  simp -implicitDefEqProofs (disch := first | omega | (simp only [List.length_set, List.length_append, List.length_cons, List.length_nil, List.length_take, List.length_drop, List.length_map]; omega) | simp) [wrap_i64, wrap_u16_id, wrap_u8_id, tdiv_pos, tmod_pos, -getElem?_pos, -getElem?_neg, -List.length_eq_zero_iff, -List.getElem_cons_drop, hk]
/-- tags of what a master holds -/
structure MTag (t1 t2 t3 : Tag) (len : Nat) (H : Heap) : Prop where
  a : okT t1
  b : okT t2
  c : TgOk t3 5 1 0 len H
theorem MTag.sc {t1 t2 t3 : Tag} {len : Nat} {H : Heap} (h : MTag t1 t2 t3 len H) (sz : Nat) {α : Type} (enc : α → DV) (l : List α) : inSc H.length (LV sz enc l t3) = true := by
  rcases h.c with rfl | ⟨k, rfl, hk, _⟩
  · simp
  · have := hp_lt hk
    cases l <;> simp [LV, mkl, inSc, this]
def Mst.turn (m : Mst) (st : Int) : Mst := { m with st := st, f := 0, came := [] }
theorem Mst.old {m : Mst} {t1 t2 t3 : Tag} {H X : Heap} (h1 : okT t1) (h2 : okT t2) (h3 : ∀ l : List Int, oldLeaf H.length X (LV 1 (I .u8) l t3) = some (LV 1 (I .u8) l t3)) : oldBlk H.length X (m.B t1 t2 t3) = some (m.B t1 t2 t3) := by
  unfold Mst.B Mst.C
  simp [oldLeaf_okT h1, oldLeaf_okT h2, h3]
theorem Mst.wf {m : Mst} {t1 t2 t3 : Tag} {n : Nat} (h1 : okT t1) (h2 : okT t2) (h3 : ∀ l : List Int, inSc n (LV 1 (I .u8) l t3) = true) : WfB n (m.B t1 t2 t3) := by
  unfold Mst.B Mst.C
  intro d hd
  simp only [List.mem_cons, List.not_mem_nil, or_false] at hd
  rcases hd with rfl | rfl | rfl | rfl | rfl | rfl | rfl | rfl | rfl | rfl | rfl | rfl | rfl | rfl | rfl | rfl | rfl <;> first | rfl | simp [inSc_okT h1, inSc_okT h2, h3]
theorem mTurn_c (n k fl : Nat) (hn : 1 ≤ n) (H : Heap) (m : Mst) (t1 t2 t3 : Tag) (st : Int) (hk : H[k]? = some (m.B t1 t2 t3)) (hw : WfH H) (hfl : fl ≤ k) (h1 : okT t1) (h2 : okT t2) :
    cW2 n 24 [.ptr k 0, I .i64 st] H fl = some (.tup [], H.set k ((m.turn st).B t1 t2 .ti)) := by
  obtain ⟨n, rfl⟩ : ∃ m, n = m + 1 := ⟨n - 1, by omega⟩
  have hkl := hp_lt hk
  refine cW2_of (r := .tup []) (H' := H.set k ((m.turn st).B t1 t2 .ti)) ((s___master_Master__turn_eq _ _ _ _ _).trans ?_) (by simp) (cutH_set hw (k := k) hkl (by simp [hkl]) (fun j hj hjk => by simp [hjk]) (Mst.old h1 h2 fun l => by simp))
  unfold Mst.B Mst.C Mst.turn at *
  unfold s___master_Master__turn
  simp -implicitDefEqProofs (disch := first | omega | (simp only [List.length_set, List.length_append, List.length_cons, List.length_nil, List.length_take, List.length_drop, List.length_map]; omega) | simp) [wrap_i64, wrap_u16_id, wrap_u8_id, tdiv_pos, tmod_pos, -getElem?_pos, -getElem?_neg, -List.length_eq_zero_iff, -List.getElem_cons_drop, hk, hkl]
  all_goals (repeat' (first | rfl | apply And.intro))
theorem mRest_c (n k : Nat) (hn : 1 ≤ n) (H : Heap) : cO2 n 29 [.ptr k 0] H = some (.tup [LV 1 (I .u8) [] .ti, outE 0 anZ .ti .ti .ti]) := by
  obtain ⟨n, rfl⟩ : ∃ m, n = m + 1 := ⟨n - 1, by omega⟩
  refine cO2_of (H' := H ++ [.cells 50 [I .i64 0, I .i64 0, .list 0 [] .ti, .list 0 [] .ti, .list 0 [] .ti]]) (r := .tup [LV 1 (I .u8) [] .ti, outE 0 anZ .ti .ti .ti]) ((s___master_Master__rest_eq _ _ _ _).trans ?_) (by simp [outE])
  unfold s___master_Master__rest outE anZ
  simp -implicitDefEqProofs (disch := first | omega | (simp only [List.length_set, List.length_append, List.length_cons, List.length_nil, List.length_take, List.length_drop, List.length_map]; omega) | simp) [wrap_i64, wrap_u16_id, wrap_u8_id, tdiv_pos, tmod_pos, -getElem?_pos, -getElem?_neg, -List.length_eq_zero_iff, -List.getElem_cons_drop]
  all_goals (repeat' (first | rfl | apply And.intro))
end Go.Proofs.Ytcpgmbpndpcmdaa
