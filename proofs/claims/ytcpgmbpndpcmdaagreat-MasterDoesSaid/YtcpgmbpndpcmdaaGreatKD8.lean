/- Texts of mine, laid together: FRtu, FRef01, FCrc, GCrc, GRef01, GRtu, GRtuL, FRef07, GRef07, FAnsS, GAnsS, GAw07, GAnsL, GMas, GMas2, GMas3, GMas4, GMas5, GMasL. -/
import Derived.Test.YtcpgmbpndpcmdaaGreatKD7
namespace Go.Proofs.YtcpgmbpndpcmdaaGreat
open Go
set_option maxRecDepth 100000
set_option linter.unusedVariables false
noncomputable def s_rtu_within (n : Nat) (H : Heap) (fl : Nat) (a0 a1 a2 : DV) : R :=
  bi (ltK .i64 a0 a1) fun d0 =>
  condR d0 (
   bi (buildS (.agg [(I .i64 0), (.flat .nilIface)]) [(0, 1), (1, 1)] [(0, a0), (1, (.iface 28 (I .i64 3)))]) fun d1 =>
  some ((.iface 116 d1), H)) (
   bi (gtK .i64 a0 a2) fun d2 =>
   condR d2 (
    bi (buildS (.agg [(I .i64 0), (.flat .nilIface)]) [(0, 1), (1, 1)] [(0, a0), (1, (.iface 28 (I .i64 4)))]) fun d3 =>
  some ((.iface 116 d3), H)) (
  some ((.flat .nilIface), H)))
theorem s_rtu_within_eq (n : Nat) (H : Heap) (fl : Nat) (a0 a1 a2 : DV) : callG Tryz.prog ENV (n + 1) 45 [a0, a1, a2] H fl = s_rtu_within n H fl a0 a1 a2 := by kernel_rfl
def s_rtu_told_I0 (x0 x7 x8 x9 : DV) : List DV := [x0, .any, .any, .any, .any, .any, .any, x7, x8, x9, .any, .any, .any, .any, .any, .any, .any, .any, .any]
def s_rtu_told_O0 (x4 : DV) : List DV := [.any, .any, .any, .any, x4, .any, .any, .any, .any, .any, .any, .any, .any, .any, .any, .any, .any, .any, .any]
noncomputable abbrev s_rtu_told_b0 (n fl : Nat) : List DV → Heap → (Ex → KF) → R := execG ⟨Tryz.prog, callG Tryz.prog ENV n, ENV.md, fl, 19⟩ n (loopAt (bodyOf Tryz.f46) 0) []
noncomputable def s_rtu_told_B0 (n fl : Nat) (rec : DV → DV → DV → DV → Heap → R) (k : Ex → KF) (x0 x7 x8 x9 : DV) (H : Heap) : R :=
  bi (ltK .i64 x9 x8) fun d0 =>
  condR d0 (
  bi (idxSl 1 x7 x9) fun d1 =>
  bi (loadG false 1 d1 H) fun d2 =>
  bi (cO n 65 [x0, (.iface 28 d2)] H) fun d3 =>
  condR d3 (
  k .ret (s_rtu_told_O0 d2) H) (
  bi (addK .i64 x9 (I .i64 1)) fun d4 =>
  rec x0 x7 x8 d4 H)) (
  k (.exit 0) (s_rtu_told_O0 .any) H)
noncomputable def s_rtu_told_L0 (n fl : Nat) (k : Ex → KF) : Nat → DV → DV → DV → DV → Heap → R
  | 0, _, _, _, _, _ => none
  | m + 1, x0, x7, x8, x9, H => s_rtu_told_B0 n fl (s_rtu_told_L0 n fl k m) k x0 x7 x8 x9 H
theorem s_rtu_told_S0 (n fl m : Nat) (k : Ex → KF) (x0 x7 x8 x9 : DV) (H : Heap) : loopG [0, 7, 8, 9] [4] 19 (s_rtu_told_b0 n fl) (m + 1) (s_rtu_told_I0 x0 x7 x8 x9) H k = s_rtu_told_B0 n fl (fun x0 x7 x8 x9 H => loopG [0, 7, 8, 9] [4] 19 (s_rtu_told_b0 n fl) m (s_rtu_told_I0 x0 x7 x8 x9) H k) k x0 x7 x8 x9 H := by kernel_rfl
theorem s_rtu_told_L0_eq (n fl : Nat) (k : Ex → KF) : ∀ (m : Nat) (x0 x7 x8 x9 : DV) (H : Heap), loopG [0, 7, 8, 9] [4] 19 (s_rtu_told_b0 n fl) m (s_rtu_told_I0 x0 x7 x8 x9) H k = s_rtu_told_L0 n fl k m x0 x7 x8 x9 H := by
  intro m
  induction m with
  | zero => intros; rfl
  | succ m ih =>
    intro x0 x7 x8 x9 H
    rw [s_rtu_told_S0, show (fun x0 x7 x8 x9 H => loopG [0, 7, 8, 9] [4] 19 (s_rtu_told_b0 n fl) m (s_rtu_told_I0 x0 x7 x8 x9) H k) = s_rtu_told_L0 n fl k m from by funext x0 x7 x8 x9 H; exact ih _ _ _ _ _]
    rw [s_rtu_told_L0]
noncomputable def s_rtu_told (n : Nat) (H : Heap) (fl : Nat) (a0 a1 : DV) : R :=
  bi (lenD a1) fun d0 =>
  loopG [0, 7, 8, 9] [4] 19 (s_rtu_told_b0 n fl) n (s_rtu_told_I0 a0 a1 d0 (I .i64 0)) H fun x S1 h1 => match x with
  | .normal => none
  | .exit i1 => (
  if i1 = 0 then (
  some ((I .i64 0), h1)) else (
  none))
  | .ret => (
  some ((S1.getD 4 .any), h1))
theorem s_rtu_told_eq (n : Nat) (H : Heap) (fl : Nat) (a0 a1 : DV) : callG Tryz.prog ENV (n + 1) 46 [a0, a1] H fl = s_rtu_told n H fl a0 a1 := by kernel_rfl
noncomputable def s_rtu_Bytes (n : Nat) (H : Heap) (fl : Nat) (a0 : DV) : R :=
  bi (allocG 67 a0 (List.length H) (H ++ [.hole])) fun h0 =>
  bi (loadG false 1 (.ptr (List.length H) 1) h0) fun d1 =>
  bi (lenD d1) fun d2 =>
  bi (cO n 45 [d2, (I .i64 1), (I .i64 253)] h0) fun d3 =>
  bi (binD Tryz.prog .neq 97 (.tmp 9) (.const .nilIface) d3 (.flat .nilIface)) fun d4 =>
  condR d4 (
   bi (buildL false 1 2 (I .i64 0) [(0, (I .i64 3)), (1, (I .i64 4))]) fun d5 =>
   bi (cO n 46 [d3, d5] h0) fun d6 =>
  some ((.tup [(.list 0 [] .ti), d6]), h0)) (
  bi (loadG false 1 (.ptr (List.length H) 0) h0) fun d7 =>
  bi (buildL false 1 1 (I .u8 0) [(0, d7)]) fun d8 =>
  bi (loadG false 1 (.ptr (List.length H) 1) h0) fun d9 =>
  bi (appG 5 false 1 1 d8 d9 h0 fl) fun p10 =>
  bi (cP n 47 false [p10.1]) fun d11 =>
  some ((.tup [d11, (I .i64 0)]), p10.2))
theorem s_rtu_Bytes_eq (n : Nat) (H : Heap) (fl : Nat) (a0 : DV) : callG Tryz.prog ENV (n + 1) 20 [a0] H fl = s_rtu_Bytes n H fl a0 := by kernel_rfl
noncomputable def s_rtu_Read (n : Nat) (H : Heap) (fl : Nat) (a0 : DV) : R :=
  bi (allocG 67 (.agg [(I .u8 0), (.list 0 [] .ti)]) (List.length H) (H ++ [.hole])) fun h0 =>
  bi (lenD a0) fun d1 =>
  bi (cO n 45 [d1, (I .i64 4), (I .i64 256)] h0) fun d2 =>
  bi (binD Tryz.prog .neq 97 (.tmp 10) (.const .nilIface) d2 (.flat .nilIface)) fun d3 =>
  condR d3 (
   bi (buildS (.agg [(I .u8 0), (.list 0 [] .ti)]) [(0, 1), (1, 1)] []) fun d4 =>
   bi (buildL false 1 2 (I .i64 0) [(0, (I .i64 3)), (1, (I .i64 4))]) fun d5 =>
   bi (cO n 46 [d2, d5] h0) fun d6 =>
   bi (storeG 2 (.ptr (List.length H) 0) d4 h0 fl) fun h7 =>
  bi (cellR true 2 (.ptr (List.length H) 0) h7) fun r0 =>
  some ((.tup [r0, d6]), h7)) (
  bi (cP n 85 false [a0]) fun d8 =>
  bi (extD 0 d8) fun d9 =>
  bi (extD 1 d8) fun d10 =>
  bi (notD d10) fun d11 =>
  condR d11 (
   bi (buildS (.agg [(I .u8 0), (.list 0 [] .ti)]) [(0, 1), (1, 1)] []) fun d12 =>
   bi (storeG 2 (.ptr (List.length H) 0) d12 h0 fl) fun h13 =>
  bi (cellR true 2 (.ptr (List.length H) 0) h13) fun r0 =>
  some ((.tup [r0, (I .i64 6)]), h13)) (
  bi (idxSl 1 d9 (I .i64 0)) fun d14 =>
  bi (loadG false 1 d14 h0) fun d15 =>
  bi (slX 1 d9 (some (I .i64 1)) none none) fun d16 =>
  bi (buildS (.agg [(I .u8 0), (.list 0 [] .ti)]) [(0, 1), (1, 1)] [(0, d15), (1, d16)]) fun d17 =>
  bi (storeG 2 (.ptr (List.length H) 0) d17 h0 fl) fun h18 =>
  bi (cellR true 2 (.ptr (List.length H) 0) h18) fun r0 =>
  some ((.tup [r0, (I .i64 0)]), h18)))
theorem s_rtu_Read_eq (n : Nat) (H : Heap) (fl : Nat) (a0 : DV) : callG Tryz.prog ENV (n + 1) 67 [a0] H fl = s_rtu_Read n H fl a0 := by kernel_rfl
noncomputable def s_triuneref03_Bytes (n : Nat) (H : Heap) (fl : Nat) (a0 : DV) : R :=
  bi (allocG 74 a0 (List.length H) (H ++ [.hole])) fun h0 =>
  bi (loadG false 1 (.ptr (List.length H) 1) h0) fun d1 =>
  bi (lenD d1) fun d2 =>
  bi (eqK .i64 d2 (I .i64 0)) fun d3 =>
  condR d3 (
  some ((.tup [(.list 0 [] .ti), (I .i64 3)]), h0)) (
  bi (loadG false 1 (.ptr (List.length H) 1) h0) fun d4 =>
  bi (lenD d4) fun d5 =>
  bi (gtK .i64 d5 (I .i64 253)) fun d6 =>
  condR d6 (
  some ((.tup [(.list 0 [] .ti), (I .i64 4)]), h0)) (
  bi (loadG false 1 (.ptr (List.length H) 0) h0) fun d7 =>
  bi (buildL false 1 1 (I .u8 0) [(0, d7)]) fun d8 =>
  bi (loadG false 1 (.ptr (List.length H) 1) h0) fun d9 =>
  bi (appG 5 false 1 1 d8 d9 h0 fl) fun p10 =>
  bi (cP n 51 false [p10.1]) fun d11 =>
  some ((.tup [d11, (I .i64 0)]), p10.2)))
theorem s_triuneref03_Bytes_eq (n : Nat) (H : Heap) (fl : Nat) (a0 : DV) : callG Tryz.prog ENV (n + 1) 26 [a0] H fl = s_triuneref03_Bytes n H fl a0 := by kernel_rfl
noncomputable def s_triuneref03_Read (n : Nat) (H : Heap) (fl : Nat) (a0 : DV) : R :=
  bi (allocG 74 (.agg [(I .u8 0), (.list 0 [] .ti)]) (List.length H) (H ++ [.hole])) fun h0 =>
  bi (lenD a0) fun d1 =>
  bi (ltK .i64 d1 (I .i64 4)) fun d2 =>
  condR d2 (
   bi (buildS (.agg [(I .u8 0), (.list 0 [] .ti)]) [(0, 1), (1, 1)] []) fun d3 =>
   bi (storeG 2 (.ptr (List.length H) 0) d3 h0 fl) fun h4 =>
  bi (cellR true 2 (.ptr (List.length H) 0) h4) fun r0 =>
  some ((.tup [r0, (I .i64 3)]), h4)) (
  bi (lenD a0) fun d5 =>
  bi (gtK .i64 d5 (I .i64 256)) fun d6 =>
  condR d6 (
   bi (buildS (.agg [(I .u8 0), (.list 0 [] .ti)]) [(0, 1), (1, 1)] []) fun d7 =>
   bi (storeG 2 (.ptr (List.length H) 0) d7 h0 fl) fun h8 =>
  bi (cellR true 2 (.ptr (List.length H) 0) h8) fun r0 =>
  some ((.tup [r0, (I .i64 4)]), h8)) (
  bi (cP n 52 false [a0]) fun d9 =>
  bi (extD 0 d9) fun d10 =>
  bi (extD 1 d9) fun d11 =>
  bi (notD d11) fun d12 =>
  condR d12 (
   bi (buildS (.agg [(I .u8 0), (.list 0 [] .ti)]) [(0, 1), (1, 1)] []) fun d13 =>
   bi (storeG 2 (.ptr (List.length H) 0) d13 h0 fl) fun h14 =>
  bi (cellR true 2 (.ptr (List.length H) 0) h14) fun r0 =>
  some ((.tup [r0, (I .i64 6)]), h14)) (
  bi (idxSl 1 d10 (I .i64 0)) fun d15 =>
  bi (loadG false 1 d15 h0) fun d16 =>
  bi (slX 1 d10 (some (I .i64 1)) none none) fun d17 =>
  bi (buildS (.agg [(I .u8 0), (.list 0 [] .ti)]) [(0, 1), (1, 1)] [(0, d16), (1, d17)]) fun d18 =>
  bi (storeG 2 (.ptr (List.length H) 0) d18 h0 fl) fun h19 =>
  bi (cellR true 2 (.ptr (List.length H) 0) h19) fun r0 =>
  some ((.tup [r0, (I .i64 0)]), h19))))
theorem s_triuneref03_Read_eq (n : Nat) (H : Heap) (fl : Nat) (a0 : DV) : callG Tryz.prog ENV (n + 1) 28 [a0] H fl = s_triuneref03_Read n H fl a0 := by kernel_rfl
end Go.Proofs.YtcpgmbpndpcmdaaGreat
namespace Go.Proofs.YtcpgmbpndpcmdaaGreat
open Go
set_option maxRecDepth 100000
set_option linter.unusedVariables false
def s_triuneref01_step_I1 (x0 x9 : DV) : List DV := [x0, .any, .any, .any, .any, .any, .any, .any, .any, x9, .any, .any, .any, .any, .any, .any, .any, .any, .any, .any, .any, .any, .any, .any, .any, .any, .any, .any, .any, .any, .any, .any, .any, .any, .any, .any, .any, .any, .any, .any, .any, .any, .any, .any, .any, .any, .any, .any, .any, .any, .any]
def s_triuneref01_step_O1 (x0 : DV) : List DV := [x0, .any, .any, .any, .any, .any, .any, .any, .any, .any, .any, .any, .any, .any, .any, .any, .any, .any, .any, .any, .any, .any, .any, .any, .any, .any, .any, .any, .any, .any, .any, .any, .any, .any, .any, .any, .any, .any, .any, .any, .any, .any, .any, .any, .any, .any, .any, .any, .any, .any, .any]
noncomputable abbrev s_triuneref01_step_b1 (n fl : Nat) : List DV → Heap → (Ex → KF) → R := execG ⟨Tryz.prog, callG Tryz.prog ENV n, ENV.md, fl, 51⟩ n (loopAt (bodyOf Tryz.f111) 1) []
noncomputable def s_triuneref01_step_B1 (n fl : Nat) (rec : DV → DV → Heap → R) (k : Ex → KF) (x0 x9 : DV) (H : Heap) : R :=
  bi (ltK .i64 x9 (I .i64 8)) fun d0 =>
  condR d0 (
  bi (remK .u16 x0 (I .u16 2)) fun d1 =>
  bi (eqK .u16 d1 (I .u16 1)) fun d2 =>
  bi (quoK .u16 x0 (I .u16 2)) fun d3 =>
  condR d2 (
   bi (xorK .u16 d3 (I .u16 40961)) fun d4 =>
  bi (addK .i64 x9 (I .i64 1)) fun d5 =>
  rec d4 d5 H) (
  bi (addK .i64 x9 (I .i64 1)) fun d6 =>
  rec d3 d6 H)) (
  k (.exit 2) (s_triuneref01_step_O1 x0) H)
noncomputable def s_triuneref01_step_L1 (n fl : Nat) (k : Ex → KF) : Nat → DV → DV → Heap → R
  | 0, _, _, _ => none
  | m + 1, x0, x9, H => s_triuneref01_step_B1 n fl (s_triuneref01_step_L1 n fl k m) k x0 x9 H
theorem s_triuneref01_step_S1 (n fl m : Nat) (k : Ex → KF) (x0 x9 : DV) (H : Heap) : loopG [0, 9] [0] 51 (s_triuneref01_step_b1 n fl) (m + 1) (s_triuneref01_step_I1 x0 x9) H k = s_triuneref01_step_B1 n fl (fun x0 x9 H => loopG [0, 9] [0] 51 (s_triuneref01_step_b1 n fl) m (s_triuneref01_step_I1 x0 x9) H k) k x0 x9 H := by kernel_rfl
theorem s_triuneref01_step_L1_eq (n fl : Nat) (k : Ex → KF) : ∀ (m : Nat) (x0 x9 : DV) (H : Heap), loopG [0, 9] [0] 51 (s_triuneref01_step_b1 n fl) m (s_triuneref01_step_I1 x0 x9) H k = s_triuneref01_step_L1 n fl k m x0 x9 H := by
  intro m
  induction m with
  | zero => intros; rfl
  | succ m ih =>
    intro x0 x9 H
    rw [s_triuneref01_step_S1, show (fun x0 x9 H => loopG [0, 9] [0] 51 (s_triuneref01_step_b1 n fl) m (s_triuneref01_step_I1 x0 x9) H k) = s_triuneref01_step_L1 n fl k m from by funext x0 x9 H; exact ih _ _ _]
    rw [s_triuneref01_step_L1]
def s_triuneref01_step_I0 (x1 x5 x6 x7 x8 : DV) : List DV := [.any, x1, .any, .any, .any, x5, x6, x7, x8, .any, .any, .any, .any, .any, .any, .any, .any, .any, .any, .any, .any, .any, .any, .any, .any, .any, .any, .any, .any, .any, .any, .any, .any, .any, .any, .any, .any, .any, .any, .any, .any, .any, .any, .any, .any, .any, .any, .any, .any, .any, .any]
def s_triuneref01_step_O0 (x5 x6 x7 : DV) : List DV := [.any, .any, .any, .any, .any, x5, x6, x7, .any, .any, .any, .any, .any, .any, .any, .any, .any, .any, .any, .any, .any, .any, .any, .any, .any, .any, .any, .any, .any, .any, .any, .any, .any, .any, .any, .any, .any, .any, .any, .any, .any, .any, .any, .any, .any, .any, .any, .any, .any, .any, .any]
noncomputable abbrev s_triuneref01_step_b0 (n fl : Nat) : List DV → Heap → (Ex → KF) → R := execG ⟨Tryz.prog, callG Tryz.prog ENV n, ENV.md, fl, 51⟩ n (loopAt (bodyOf Tryz.f111) 0) []
noncomputable def s_triuneref01_step_B0 (n fl : Nat) (rec : DV → DV → DV → DV → DV → Heap → R) (k : Ex → KF) (x1 x5 x6 x7 x8 : DV) (H : Heap) : R :=
  bi (ltK .i64 x8 (I .i64 256)) fun d0 =>
  condR d0 (
  bi (quoK .i64 x6 x8) fun d1 =>
  bi (remK .i64 d1 (I .i64 2)) fun d2 =>
  bi (cvK .i64 x1) fun d3 =>
  bi (quoK .i64 d3 x8) fun d4 =>
  bi (remK .i64 d4 (I .i64 2)) fun d5 =>
  bi (neK .i64 d2 d5) fun d6 =>
  condR d6 (
   bi (addK .i64 x7 x8) fun d7 =>
  bi (mulK .i64 (I .i64 2) x8) fun d8 =>
  rec x1 x5 x6 d7 d8 H) (
  bi (mulK .i64 (I .i64 2) x8) fun d9 =>
  rec x1 x5 x6 x7 d9 H)) (
  k (.exit 0) (s_triuneref01_step_O0 x5 x6 x7) H)
noncomputable def s_triuneref01_step_L0 (n fl : Nat) (k : Ex → KF) : Nat → DV → DV → DV → DV → DV → Heap → R
  | 0, _, _, _, _, _, _ => none
  | m + 1, x1, x5, x6, x7, x8, H => s_triuneref01_step_B0 n fl (s_triuneref01_step_L0 n fl k m) k x1 x5 x6 x7 x8 H
theorem s_triuneref01_step_S0 (n fl m : Nat) (k : Ex → KF) (x1 x5 x6 x7 x8 : DV) (H : Heap) : loopG [1, 5, 6, 7, 8] [5, 6, 7] 51 (s_triuneref01_step_b0 n fl) (m + 1) (s_triuneref01_step_I0 x1 x5 x6 x7 x8) H k = s_triuneref01_step_B0 n fl (fun x1 x5 x6 x7 x8 H => loopG [1, 5, 6, 7, 8] [5, 6, 7] 51 (s_triuneref01_step_b0 n fl) m (s_triuneref01_step_I0 x1 x5 x6 x7 x8) H k) k x1 x5 x6 x7 x8 H := by kernel_rfl
theorem s_triuneref01_step_L0_eq (n fl : Nat) (k : Ex → KF) : ∀ (m : Nat) (x1 x5 x6 x7 x8 : DV) (H : Heap), loopG [1, 5, 6, 7, 8] [5, 6, 7] 51 (s_triuneref01_step_b0 n fl) m (s_triuneref01_step_I0 x1 x5 x6 x7 x8) H k = s_triuneref01_step_L0 n fl k m x1 x5 x6 x7 x8 H := by
  intro m
  induction m with
  | zero => intros; rfl
  | succ m ih =>
    intro x1 x5 x6 x7 x8 H
    rw [s_triuneref01_step_S0, show (fun x1 x5 x6 x7 x8 H => loopG [1, 5, 6, 7, 8] [5, 6, 7] 51 (s_triuneref01_step_b0 n fl) m (s_triuneref01_step_I0 x1 x5 x6 x7 x8) H k) = s_triuneref01_step_L0 n fl k m from by funext x1 x5 x6 x7 x8 H; exact ih _ _ _ _ _ _]
    rw [s_triuneref01_step_L0]
noncomputable def s_triuneref01_step (n : Nat) (H : Heap) (fl : Nat) (a0 a1 : DV) : R :=
  bi (cvK .i64 a0) fun d0 =>
  bi (remK .i64 d0 (I .i64 256)) fun d1 =>
  loopG [1, 5, 6, 7, 8] [5, 6, 7] 51 (s_triuneref01_step_b0 n fl) n (s_triuneref01_step_I0 a1 d0 d1 (I .i64 0) (I .i64 1)) H fun x S2 h2 => match x with
  | .normal => none
  | .exit i2 => (
  if i2 = 0 then (
  bi (subK .i64 (S2.getD 5 .any) (S2.getD 6 .any)) fun d3 =>
  bi (addK .i64 d3 (S2.getD 7 .any)) fun d4 =>
  bi (cvK .u16 d4) fun d5 =>
  loopG [0, 9] [0] 51 (s_triuneref01_step_b1 n fl) n (s_triuneref01_step_I1 d5 (I .i64 0)) h2 fun x S6 h6 => match x with
  | .normal => none
  | .exit i6 => (
  if i6 = 2 then (
  some ((S6.getD 0 .any), h6)) else (
  none))
  | .ret => (
  some (.any, h6))) else (
  none))
  | .ret => (
  some (.any, h2))
theorem s_triuneref01_step_eq (n : Nat) (H : Heap) (fl : Nat) (a0 a1 : DV) : callG Tryz.prog ENV (n + 1) 111 [a0, a1] H fl = s_triuneref01_step n H fl a0 a1 := by kernel_rfl
def s_triuneref01_More_I0 (x0 x1 x5 : DV) : List DV := [x0, x1, .any, .any, .any, x5, .any, .any, .any, .any, .any, .any, .any, .any, .any, .any, .any, .any, .any]
def s_triuneref01_More_O0 (x0 : DV) : List DV := [x0, .any, .any, .any, .any, .any, .any, .any, .any, .any, .any, .any, .any, .any, .any, .any, .any, .any, .any]
noncomputable abbrev s_triuneref01_More_b0 (n fl : Nat) : List DV → Heap → (Ex → KF) → R := execG ⟨Tryz.prog, callG Tryz.prog ENV n, ENV.md, fl, 19⟩ n (loopAt (bodyOf Tryz.f90) 0) []
noncomputable def s_triuneref01_More_B0 (n fl : Nat) (rec : DV → DV → DV → Heap → R) (k : Ex → KF) (x0 x1 x5 : DV) (H : Heap) : R :=
  bi (lenD x1) fun d0 =>
  bi (ltK .i64 x5 d0) fun d1 =>
  condR d1 (
  bi (idxSl 1 x1 x5) fun d2 =>
  bi (loadG false 1 d2 H) fun d3 =>
  bi (cP n 111 false [x0, d3]) fun d4 =>
  bi (addK .i64 x5 (I .i64 1)) fun d5 =>
  rec d4 x1 d5 H) (
  k (.exit 0) (s_triuneref01_More_O0 x0) H)
noncomputable def s_triuneref01_More_L0 (n fl : Nat) (k : Ex → KF) : Nat → DV → DV → DV → Heap → R
  | 0, _, _, _, _ => none
  | m + 1, x0, x1, x5, H => s_triuneref01_More_B0 n fl (s_triuneref01_More_L0 n fl k m) k x0 x1 x5 H
theorem s_triuneref01_More_S0 (n fl m : Nat) (k : Ex → KF) (x0 x1 x5 : DV) (H : Heap) : loopG [0, 1, 5] [0] 19 (s_triuneref01_More_b0 n fl) (m + 1) (s_triuneref01_More_I0 x0 x1 x5) H k = s_triuneref01_More_B0 n fl (fun x0 x1 x5 H => loopG [0, 1, 5] [0] 19 (s_triuneref01_More_b0 n fl) m (s_triuneref01_More_I0 x0 x1 x5) H k) k x0 x1 x5 H := by kernel_rfl
theorem s_triuneref01_More_L0_eq (n fl : Nat) (k : Ex → KF) : ∀ (m : Nat) (x0 x1 x5 : DV) (H : Heap), loopG [0, 1, 5] [0] 19 (s_triuneref01_More_b0 n fl) m (s_triuneref01_More_I0 x0 x1 x5) H k = s_triuneref01_More_L0 n fl k m x0 x1 x5 H := by
  intro m
  induction m with
  | zero => intros; rfl
  | succ m ih =>
    intro x0 x1 x5 H
    rw [s_triuneref01_More_S0, show (fun x0 x1 x5 H => loopG [0, 1, 5] [0] 19 (s_triuneref01_More_b0 n fl) m (s_triuneref01_More_I0 x0 x1 x5) H k) = s_triuneref01_More_L0 n fl k m from by funext x0 x1 x5 H; exact ih _ _ _ _]
    rw [s_triuneref01_More_L0]
noncomputable def s_triuneref01_More (n : Nat) (H : Heap) (fl : Nat) (a0 a1 : DV) : R :=
  loopG [0, 1, 5] [0] 19 (s_triuneref01_More_b0 n fl) n (s_triuneref01_More_I0 a0 a1 (I .i64 0)) H fun x S0 h0 => match x with
  | .normal => none
  | .exit i0 => (
  if i0 = 0 then (
  some ((S0.getD 0 .any), h0)) else (
  none))
  | .ret => (
  some (.any, h0))
theorem s_triuneref01_More_eq (n : Nat) (H : Heap) (fl : Nat) (a0 a1 : DV) : callG Tryz.prog ENV (n + 1) 90 [a0, a1] H fl = s_triuneref01_More n H fl a0 a1 := by kernel_rfl
noncomputable def s_triuneref01_Sum (n : Nat) (H : Heap) (fl : Nat) (a0 : DV) : R :=
  bi (cP n 90 false [(I .u16 65535), a0]) fun d0 =>
  some (d0, H)
theorem s_triuneref01_Sum_eq (n : Nat) (H : Heap) (fl : Nat) (a0 : DV) : callG Tryz.prog ENV (n + 1) 72 [a0] H fl = s_triuneref01_Sum n H fl a0 := by kernel_rfl
noncomputable def s_triuneref01_Put (n : Nat) (H : Heap) (fl : Nat) (a0 : DV) : R :=
  bi (cP n 72 false [a0]) fun d0 =>
  bi (buildL false 1 0 (I .u8 0) []) fun d1 =>
  bi (appG 5 false 1 1 d1 a0 H fl) fun p2 =>
  bi (remK .u16 d0 (I .u16 256)) fun d3 =>
  bi (cvK .u8 d3) fun d4 =>
  bi (quoK .u16 d0 (I .u16 256)) fun d5 =>
  bi (cvK .u8 d5) fun d6 =>
  bi (buildL false 1 2 (I .u8 0) [(0, d4), (1, d6)]) fun d7 =>
  bi (appG 5 false 1 1 p2.1 d7 p2.2 fl) fun p8 =>
  some (p8.1, p8.2)
theorem s_triuneref01_Put_eq (n : Nat) (H : Heap) (fl : Nat) (a0 : DV) : callG Tryz.prog ENV (n + 1) 51 [a0] H fl = s_triuneref01_Put n H fl a0 := by kernel_rfl
noncomputable def s_triuneref01_Cut (n : Nat) (H : Heap) (fl : Nat) (a0 : DV) : R :=
  bi (lenD a0) fun d0 =>
  bi (ltK .i64 d0 (I .i64 2)) fun d1 =>
  condR d1 (
  some ((.tup [(.list 0 [] .ti), (Bo false)]), H)) (
  bi (lenD a0) fun d2 =>
  bi (subK .i64 d2 (I .i64 2)) fun d3 =>
  bi (slX 1 a0 none (some d3) none) fun d4 =>
  bi (cP n 51 false [d4]) fun d5 =>
  bi (cP n 12 false [d5, a0]) fun d6 =>
  bi (notD d6) fun d7 =>
  condR d7 (
  some ((.tup [(.list 0 [] .ti), (Bo false)]), H)) (
  bi (buildL false 1 0 (I .u8 0) []) fun d8 =>
  bi (appG 5 false 1 1 d8 d4 H fl) fun p9 =>
  some ((.tup [p9.1, (Bo true)]), p9.2)))
theorem s_triuneref01_Cut_eq (n : Nat) (H : Heap) (fl : Nat) (a0 : DV) : callG Tryz.prog ENV (n + 1) 52 [a0] H fl = s_triuneref01_Cut n H fl a0 := by kernel_rfl
end Go.Proofs.YtcpgmbpndpcmdaaGreat
namespace Go.Proofs.YtcpgmbpndpcmdaaGreat
open Go
set_option maxRecDepth 100000
set_option linter.unusedVariables false
def s_crc_More_I1 (x0 x8 x9 x10 x18 : DV) : List DV := [x0, .any, .any, .any, .any, .any, .any, .any, x8, x9, x10, .any, .any, .any, .any, .any, .any, .any, x18, .any, .any, .any, .any, .any, .any, .any, .any, .any, .any, .any, .any]
def s_crc_More_O1 (x0 x8 x9 x10 : DV) : List DV := [x0, .any, .any, .any, .any, .any, .any, .any, x8, x9, x10, .any, .any, .any, .any, .any, .any, .any, .any, .any, .any, .any, .any, .any, .any, .any, .any, .any, .any, .any, .any]
noncomputable abbrev s_crc_More_b1 (n fl : Nat) : List DV → Heap → (Ex → KF) → R := execG ⟨Tryz.prog, callG Tryz.prog ENV n, ENV.md, fl, 31⟩ n (loopAt (bodyOf Tryz.f84) 1) []
noncomputable def s_crc_More_B1 (n fl : Nat) (rec : DV → DV → DV → DV → DV → Heap → R) (k : Ex → KF) (x0 x8 x9 x10 x18 : DV) (H : Heap) : R :=
  bi (ltK .i64 x18 (I .i64 8)) fun d0 =>
  condR d0 (
  bi (andK .u16 x0 (I .u16 1)) fun d1 =>
  bi (shrK .u16 x0 (I .u64 1)) fun d2 =>
  bi (unD Tryz.prog .neg d1) fun d3 =>
  bi (andK .u16 (I .u16 40961) d3) fun d4 =>
  bi (xorK .u16 d2 d4) fun d5 =>
  bi (addK .i64 x18 (I .i64 1)) fun d6 =>
  rec d5 x8 x9 x10 d6 H) (
  k (.exit 2) (s_crc_More_O1 x0 x8 x9 x10) H)
noncomputable def s_crc_More_L1 (n fl : Nat) (k : Ex → KF) : Nat → DV → DV → DV → DV → DV → Heap → R
  | 0, _, _, _, _, _, _ => none
  | m + 1, x0, x8, x9, x10, x18, H => s_crc_More_B1 n fl (s_crc_More_L1 n fl k m) k x0 x8 x9 x10 x18 H
theorem s_crc_More_S1 (n fl m : Nat) (k : Ex → KF) (x0 x8 x9 x10 x18 : DV) (H : Heap) : loopG [0, 8, 9, 10, 18] [0, 8, 9, 10] 31 (s_crc_More_b1 n fl) (m + 1) (s_crc_More_I1 x0 x8 x9 x10 x18) H k = s_crc_More_B1 n fl (fun x0 x8 x9 x10 x18 H => loopG [0, 8, 9, 10, 18] [0, 8, 9, 10] 31 (s_crc_More_b1 n fl) m (s_crc_More_I1 x0 x8 x9 x10 x18) H k) k x0 x8 x9 x10 x18 H := by kernel_rfl
theorem s_crc_More_L1_eq (n fl : Nat) (k : Ex → KF) : ∀ (m : Nat) (x0 x8 x9 x10 x18 : DV) (H : Heap), loopG [0, 8, 9, 10, 18] [0, 8, 9, 10] 31 (s_crc_More_b1 n fl) m (s_crc_More_I1 x0 x8 x9 x10 x18) H k = s_crc_More_L1 n fl k m x0 x8 x9 x10 x18 H := by
  intro m
  induction m with
  | zero => intros; rfl
  | succ m ih =>
    intro x0 x8 x9 x10 x18 H
    rw [s_crc_More_S1, show (fun x0 x8 x9 x10 x18 H => loopG [0, 8, 9, 10, 18] [0, 8, 9, 10] 31 (s_crc_More_b1 n fl) m (s_crc_More_I1 x0 x8 x9 x10 x18) H k) = s_crc_More_L1 n fl k m from by funext x0 x8 x9 x10 x18 H; exact ih _ _ _ _ _ _]
    rw [s_crc_More_L1]
def s_crc_More_I0 (x0 x8 x9 x10 : DV) : List DV := [x0, .any, .any, .any, .any, .any, .any, .any, x8, x9, x10, .any, .any, .any, .any, .any, .any, .any, .any, .any, .any, .any, .any, .any, .any, .any, .any, .any, .any, .any, .any]
def s_crc_More_O0 (x0 : DV) : List DV := [x0, .any, .any, .any, .any, .any, .any, .any, .any, .any, .any, .any, .any, .any, .any, .any, .any, .any, .any, .any, .any, .any, .any, .any, .any, .any, .any, .any, .any, .any, .any]
noncomputable abbrev s_crc_More_b0 (n fl : Nat) : List DV → Heap → (Ex → KF) → R := execG ⟨Tryz.prog, callG Tryz.prog ENV n, ENV.md, fl, 31⟩ n (loopAt (bodyOf Tryz.f84) 0) [([0, 8, 9, 10, 18], [0, 8, 9, 10])]
noncomputable def s_crc_More_B0 (n fl : Nat) (rec : DV → DV → DV → DV → Heap → R) (k : Ex → KF) (x0 x8 x9 x10 : DV) (H : Heap) : R :=
  bi (ltK .i64 x10 x9) fun d0 =>
  condR d0 (
  bi (idxSl 1 x8 x10) fun d1 =>
  bi (loadG false 1 d1 H) fun d2 =>
  bi (cvK .u16 d2) fun d3 =>
  bi (xorK .u16 x0 d3) fun d4 =>
  loopG [0, 8, 9, 10, 18] [0, 8, 9, 10] 31 (s_crc_More_b1 n fl) n (s_crc_More_I1 d4 x8 x9 x10 (I .i64 0)) H fun x S5 h5 => match x with
  | .normal => none
  | .exit i5 => (
  if i5 = 2 then (
  bi (addK .i64 (S5.getD 10 .any) (I .i64 1)) fun d6 =>
  rec (S5.getD 0 .any) (S5.getD 8 .any) (S5.getD 9 .any) d6 h5) else (
  if i5 = 1 then (
  bi (addK .i64 (S5.getD 10 .any) (I .i64 1)) fun d7 =>
  rec (S5.getD 0 .any) (S5.getD 8 .any) (S5.getD 9 .any) d7 h5) else (
  k (.exit i5) (s_crc_More_O0 (S5.getD 0 .any)) h5)))
  | .ret => (
  k .ret (s_crc_More_O0 (S5.getD 0 .any)) h5)) (
  k (.exit 0) (s_crc_More_O0 x0) H)
noncomputable def s_crc_More_L0 (n fl : Nat) (k : Ex → KF) : Nat → DV → DV → DV → DV → Heap → R
  | 0, _, _, _, _, _ => none
  | m + 1, x0, x8, x9, x10, H => s_crc_More_B0 n fl (s_crc_More_L0 n fl k m) k x0 x8 x9 x10 H
theorem s_crc_More_S0 (n fl m : Nat) (k : Ex → KF) (x0 x8 x9 x10 : DV) (H : Heap) : loopG [0, 8, 9, 10] [0] 31 (s_crc_More_b0 n fl) (m + 1) (s_crc_More_I0 x0 x8 x9 x10) H k = s_crc_More_B0 n fl (fun x0 x8 x9 x10 H => loopG [0, 8, 9, 10] [0] 31 (s_crc_More_b0 n fl) m (s_crc_More_I0 x0 x8 x9 x10) H k) k x0 x8 x9 x10 H := by kernel_rfl
theorem s_crc_More_L0_eq (n fl : Nat) (k : Ex → KF) : ∀ (m : Nat) (x0 x8 x9 x10 : DV) (H : Heap), loopG [0, 8, 9, 10] [0] 31 (s_crc_More_b0 n fl) m (s_crc_More_I0 x0 x8 x9 x10) H k = s_crc_More_L0 n fl k m x0 x8 x9 x10 H := by
  intro m
  induction m with
  | zero => intros; rfl
  | succ m ih =>
    intro x0 x8 x9 x10 H
    rw [s_crc_More_S0, show (fun x0 x8 x9 x10 H => loopG [0, 8, 9, 10] [0] 31 (s_crc_More_b0 n fl) m (s_crc_More_I0 x0 x8 x9 x10) H k) = s_crc_More_L0 n fl k m from by funext x0 x8 x9 x10 H; exact ih _ _ _ _ _]
    rw [s_crc_More_L0]
noncomputable def s_crc_More (n : Nat) (H : Heap) (fl : Nat) (a0 a1 : DV) : R :=
  bi (lenD a1) fun d0 =>
  loopG [0, 8, 9, 10] [0] 31 (s_crc_More_b0 n fl) n (s_crc_More_I0 a0 a1 d0 (I .i64 0)) H fun x S1 h1 => match x with
  | .normal => none
  | .exit i1 => (
  if i1 = 0 then (
  some ((S1.getD 0 .any), h1)) else (
  none))
  | .ret => (
  some (.any, h1))
theorem s_crc_More_eq (n : Nat) (H : Heap) (fl : Nat) (a0 a1 : DV) : callG Tryz.prog ENV (n + 1) 84 [a0, a1] H fl = s_crc_More n H fl a0 a1 := by kernel_rfl
noncomputable def s_crc_Sum (n : Nat) (H : Heap) (fl : Nat) (a0 : DV) : R :=
  bi (cP n 84 false [(I .u16 65535), a0]) fun d0 =>
  some (d0, H)
theorem s_crc_Sum_eq (n : Nat) (H : Heap) (fl : Nat) (a0 : DV) : callG Tryz.prog ENV (n + 1) 66 [a0] H fl = s_crc_Sum n H fl a0 := by kernel_rfl
noncomputable def s_crc_Put (n : Nat) (H : Heap) (fl : Nat) (a0 : DV) : R :=
  bi (cP n 66 false [a0]) fun d0 =>
  bi (lenD a0) fun d1 =>
  bi (lenD a0) fun d2 =>
  bi (slX 1 a0 none (some d1) (some d2)) fun d3 =>
  bi (cvK .u8 d0) fun d4 =>
  bi (shrK .u16 d0 (I .u64 8)) fun d5 =>
  bi (cvK .u8 d5) fun d6 =>
  bi (buildL false 1 2 (I .u8 0) [(0, d4), (1, d6)]) fun d7 =>
  bi (appG 5 false 1 1 d3 d7 H fl) fun p8 =>
  some (p8.1, p8.2)
theorem s_crc_Put_eq (n : Nat) (H : Heap) (fl : Nat) (a0 : DV) : callG Tryz.prog ENV (n + 1) 47 [a0] H fl = s_crc_Put n H fl a0 := by kernel_rfl
noncomputable def s_crc_Cut (n : Nat) (H : Heap) (fl : Nat) (a0 : DV) : R :=
  bi (lenD a0) fun d0 =>
  bi (ltK .i64 d0 (I .i64 2)) fun d1 =>
  bi (wantF d1 false (some a0)) fun d2 =>
  bi (wantF d1 false (cP n 66 false [d2])) fun d3 =>
  bi (wantF d1 false (neK .u16 d3 (I .u16 0))) fun d4 =>
  bi (pickD d1 (Bo true) d4) fun d5 =>
  condR d5 (
  some ((.tup [(.list 0 [] .ti), (Bo false)]), H)) (
  bi (lenD a0) fun d6 =>
  bi (subK .i64 d6 (I .i64 2)) fun d7 =>
  bi (slX 1 a0 none (some d7) none) fun d8 =>
  bi (appG 5 false 1 1 (.list 0 [] .ti) d8 H fl) fun p9 =>
  some ((.tup [p9.1, (Bo true)]), p9.2))
theorem s_crc_Cut_eq (n : Nat) (H : Heap) (fl : Nat) (a0 : DV) : callG Tryz.prog ENV (n + 1) 85 [a0] H fl = s_crc_Cut n H fl a0 := by kernel_rfl
end Go.Proofs.YtcpgmbpndpcmdaaGreat
namespace Go.Proofs.YtcpgmbpndpcmdaaGreat
open Go
set_option linter.unusedSimpArgs false
set_option linter.unusedVariables false
theorem xorI_nat (k : IntKind) (a b : Nat) (hk : k.signed = false) (ha : a < 2 ^ k.bits) (hb : b < 2 ^ k.bits) : xorI k a b = ((a ^^^ b : Nat) : Int) := by
  unfold xorI IntKind.wrap
  have h : a ^^^ b < 2 ^ k.bits := Nat.xor_lt_two_pow ha hb
  simp only [hk, Bool.false_and, Bool.false_eq_true, if_false]
  rw [BitVec.toNat_xor, BitVec.toNat_ofInt, BitVec.toNat_ofInt]
  have e1 : ((a : Int) % ((2 ^ k.bits : Nat) : Int)).toNat = a := by rw [Int.emod_eq_of_lt (by omega) (by exact_mod_cast ha)]; simp
  have e2 : ((b : Int) % ((2 ^ k.bits : Nat) : Int)).toNat = b := by rw [Int.emod_eq_of_lt (by omega) (by exact_mod_cast hb)]; simp
  rw [e1, e2]
  have : (2 : Int) ^ k.bits = ((2 ^ k.bits : Nat) : Int) := by simp
  rw [this]
  exact Int.emod_eq_of_lt (by omega) (by exact_mod_cast h)
theorem andI_nat (k : IntKind) (a b : Nat) (hk : k.signed = false) (ha : a < 2 ^ k.bits) (hb : b < 2 ^ k.bits) : andI k a b = ((a &&& b : Nat) : Int) := by
  unfold andI IntKind.wrap
  have h : a &&& b < 2 ^ k.bits := Nat.lt_of_le_of_lt Nat.and_le_left ha
  simp only [hk, Bool.false_and, Bool.false_eq_true, if_false]
  rw [BitVec.toNat_and, BitVec.toNat_ofInt, BitVec.toNat_ofInt]
  have e1 : ((a : Int) % ((2 ^ k.bits : Nat) : Int)).toNat = a := by rw [Int.emod_eq_of_lt (by omega) (by exact_mod_cast ha)]; simp
  have e2 : ((b : Int) % ((2 ^ k.bits : Nat) : Int)).toNat = b := by rw [Int.emod_eq_of_lt (by omega) (by exact_mod_cast hb)]; simp
  rw [e1, e2]
  have : (2 : Int) ^ k.bits = ((2 ^ k.bits : Nat) : Int) := by simp
  rw [this]
  exact Int.emod_eq_of_lt (by omega) (by exact_mod_cast h)
theorem shrI_1 (x : Int) : shrI .u16 x 1 = x / 2 := by
  unfold shrI
  have : (2 : Int) ^ min (1 : Int).toNat IntKind.u16.bits = 2 := rfl
  rw [this, Int.fdiv_eq_ediv_of_nonneg _ (by omega)]
theorem neg_0 : unD Tryz.prog .neg (I .u16 0) = some (I .u16 0) := by kernel_rfl
theorem neg_1 : unD Tryz.prog .neg (I .u16 1) = some (I .u16 65535) := by kernel_rfl
def nB (l : List Int) : List UInt8 := l.map lowB
theorem nB_length (l : List Int) : (nB l).length = l.length := by simp [nB]
theorem nB_get (l : List Int) (i : Nat) (h : i < l.length) : (nB l)[i]'(by rw [nB_length]; exact h) = lowB l[i] := by simp [nB]
def sumN (l : List Int) : Nat := nMore 65535 (nB l)
theorem sumN_lt (l : List Int) : sumN l < 65536 := nMore_lt _ _ (by omega)
theorem crc_L1 (n fl : Nat) (K : Ex → KF) (x8 x9 x10 : DV) (x0 : Nat) (hx : x0 < 65536) : ∀ (m j : Nat) (H : Heap), 8 < m + j → j ≤ 8 →
    s_crc_More_L1 n fl K m (I .u16 (nBits j x0)) x8 x9 x10 (I .i64 j) H = K (.exit 2) (s_crc_More_O1 (I .u16 (nBits 8 x0)) x8 x9 x10) H := by
  intro m
  induction m with
  | zero => intro j H h; omega
  | succ m ih =>
    intro j H hm hj
    unfold s_crc_More_L1 s_crc_More_B1
    by_cases h : j < 8
    · have ih' := ih (j + 1) H (by omega) (by omega)
      have hj2 : ((j + 1 : Nat) : Int) = (j : Int) + 1 := by omega
      rw [hj2] at ih'
      have hb := nBits_lt j x0 hx
      have e1 : nBits (j + 1) x0 = nBit (nBits j x0) := rfl
      rw [e1] at ih'
      generalize nBits j x0 = y at *
      have a1 : andI .u16 (y : Int) 1 = ((y % 2 : Nat) : Int) := by
        have := andI_nat .u16 y 1 rfl (by exact hb) (by decide)
        rw [Nat.and_one_is_mod] at this
        exact this
      have s1 := shrI_1 (y : Int)
      have hy2 : ((y : Int) / 2) = ((y / 2 : Nat) : Int) := by omega
      rcases (by omega : y % 2 = 0 ∨ y % 2 = 1) with h0 | h0
      · rw [h0] at a1
        have n0 := neg_0
        have a2 : andI .u16 40961 0 = 0 := by decide
        have x1 : xorI .u16 ((y : Int) / 2) 0 = (nBit y : Int) := by
          rw [hy2]
          have := xorI_nat .u16 (y / 2) 0 rfl (by show y / 2 < 65536; omega) (by decide)
          unfold nBit
          rw [if_neg (by omega)]
          exact this
        simp only [Int.natCast_zero] at a1
        simp -implicitDefEqProofs (disch := first | omega | (simp only [List.length_set, List.length_append, List.length_cons, List.length_nil, List.length_take, List.length_drop, List.length_map]; omega) | simp) [wrap_i64, wrap_u16_id, wrap_u8_id, tdiv_pos, tmod_pos, -getElem?_pos, -getElem?_neg, -List.length_eq_zero_iff, -List.getElem_cons_drop, h, a1, s1, n0, a2, x1, ih']
      · rw [h0] at a1
        have n0 := neg_1
        have a2 : andI .u16 40961 65535 = 40961 := by decide
        have x1 : xorI .u16 ((y : Int) / 2) 40961 = (nBit y : Int) := by
          rw [hy2]
          have := xorI_nat .u16 (y / 2) 40961 rfl (by show y / 2 < 65536; omega) (by decide)
          unfold nBit
          rw [if_pos h0]
          exact this
        simp only [Int.natCast_one] at a1
        simp -implicitDefEqProofs (disch := first | omega | (simp only [List.length_set, List.length_append, List.length_cons, List.length_nil, List.length_take, List.length_drop, List.length_map]; omega) | simp) [wrap_i64, wrap_u16_id, wrap_u8_id, tdiv_pos, tmod_pos, -getElem?_pos, -getElem?_neg, -List.length_eq_zero_iff, -List.getElem_cons_drop, h, a1, s1, n0, a2, x1, ih']
    · have : j = 8 := by omega
      subst this
      simp -implicitDefEqProofs (disch := first | omega | (simp only [List.length_set, List.length_append, List.length_cons, List.length_nil, List.length_take, List.length_drop, List.length_map]; omega) | simp) [wrap_i64, wrap_u16_id, wrap_u8_id, tdiv_pos, tmod_pos, -getElem?_pos, -getElem?_neg, -List.length_eq_zero_iff, -List.getElem_cons_drop]
theorem lowB_of (x : Int) (h : 0 ≤ x ∧ x < 256) : x = ((lowB x).toNat : Int) := (lowB_nat x h.1 h.2).symm
theorem nMore_snoc (s : Nat) (l : List UInt8) (k : Nat) (h : k < l.length) : nMore s (l.take (k + 1)) = nBits 8 (nMore s (l.take k) ^^^ (l[k]).toNat) := by
  unfold nMore; rw [List.take_succ_eq_append_getElem h, List.foldl_append]; rfl
theorem nB_take (l : List Int) (k : Nat) : nB (l.take k) = (nB l).take k := by simp [nB]
theorem crc_L0 (n fl : Nat) (K : Ex → KF) (s : Nat) (hs : s < 65536) (l : List Int) (t : Tag) (hb : Bytes l) (hl : l.length ≤ 100000) (hn : 9 ≤ n) : ∀ (m i : Nat) (H : Heap), l.length < m + i → i ≤ l.length →
    s_crc_More_L0 n fl K m (I .u16 (nMore s ((nB l).take i))) (LV 1 (I .u8) l t) (I .i64 l.length) (I .i64 i) H = K (.exit 0) (s_crc_More_O0 (I .u16 (nMore s (nB l)))) H := by
  intro m
  induction m with
  | zero => intro i H h; omega
  | succ m ih =>
    intro i H hm hi
    unfold s_crc_More_L0 s_crc_More_B0
    by_cases h : i < l.length
    · have ih' := ih (i + 1) H (by omega) (by omega)
      have hi2 : ((i + 1 : Nat) : Int) = (i : Int) + 1 := by omega
      rw [hi2, nMore_snoc s (nB l) i (by rw [nB_length]; exact h), nB_get l i h] at ih'
      have hy := nMore_lt ((nB l).take i) s hs
      generalize nMore s ((nB l).take i) = y at *
      have hx := hb _ (List.getElem_mem h)
      have hc := (lowB l[i]).toNat_lt
      have e := lowB_of l[i] hx
      have hxx : y ^^^ (lowB l[i]).toNat < 65536 := Nat.xor_lt_two_pow (n := 16) hy (by omega)
      have x1 : xorI .u16 (y : Int) l[i] = ((y ^^^ (lowB l[i]).toNat : Nat) : Int) := by
        conv => lhs; rw [e]
        exact xorI_nat .u16 y _ rfl hy (by show _ < 65536; omega)
      have q : ∀ K, loopG [0, 8, 9, 10, 18] [0, 8, 9, 10] 31 (s_crc_More_b1 n fl) n (s_crc_More_I1 (I .u16 ((y ^^^ (lowB l[i]).toNat : Nat) : Int)) (LV 1 (I .u8) l t) (I .i64 l.length) (I .i64 i) (I .i64 0)) H K = _ := fun K => (s_crc_More_L1_eq _ _ _ _ _ _ _ _ _ _).trans (crc_L1 n fl K (LV 1 (I .u8) l t) (I .i64 l.length) (I .i64 i) (y ^^^ (lowB l[i]).toNat) hxx n 0 H (by omega) (by omega))
      simp -implicitDefEqProofs (disch := first | omega | (simp only [List.length_set, List.length_append, List.length_cons, List.length_nil, List.length_take, List.length_drop, List.length_map]; omega) | simp) [wrap_i64, wrap_u16_id, wrap_u8_id, tdiv_pos, tmod_pos, -getElem?_pos, -getElem?_neg, -List.length_eq_zero_iff, -List.getElem_cons_drop, h, x1, q, s_crc_More_O1, ih']
    · have : i = l.length := by omega
      subst this
      have e : (nB l).take l.length = nB l := List.take_of_length_le (by rw [nB_length]; omega)
      rw [e]
      simp -implicitDefEqProofs (disch := first | omega | (simp only [List.length_set, List.length_append, List.length_cons, List.length_nil, List.length_take, List.length_drop, List.length_map]; omega) | simp) [wrap_i64, wrap_u16_id, wrap_u8_id, tdiv_pos, tmod_pos, -getElem?_pos, -getElem?_neg, -List.length_eq_zero_iff, -List.getElem_cons_drop]
theorem crc_More_c (n : Nat) (s : Nat) (hs : s < 65536) (l : List Int) (t : Tag) (hb : Bytes l) (hl : l.length ≤ 100000) (hn : l.length + 12 ≤ n) : cP n 84 false [I .u16 s, LV 1 (I .u8) l t] = some (I .u16 (nMore s (nB l))) := by
  obtain ⟨n, rfl⟩ : ∃ m, n = m + 1 := ⟨n - 1, by omega⟩
  have q : ∀ K, loopG [0, 8, 9, 10] [0] 31 (s_crc_More_b0 n 0) n (s_crc_More_I0 (I .u16 s) (LV 1 (I .u8) l .sh) (I .i64 l.length) (I .i64 0)) [] K = _ := fun K => (s_crc_More_L0_eq _ _ _ _ _ _ _ _ _).trans (crc_L0 n 0 K s hs l .sh hb hl (by omega) n 0 [] (by omega) (by omega))
  exact cP_of (args' := [I .u16 s, LV 1 (I .u8) l .sh]) (by simp [argEl_eq]) ((s_crc_More_eq _ _ _ _ _).trans (by unfold s_crc_More; simp -implicitDefEqProofs (disch := first | omega | (simp only [List.length_set, List.length_append, List.length_cons, List.length_nil, List.length_take, List.length_drop, List.length_map]; omega) | simp) [wrap_i64, wrap_u16_id, wrap_u8_id, tdiv_pos, tmod_pos, -getElem?_pos, -getElem?_neg, -List.length_eq_zero_iff, -List.getElem_cons_drop, q, s_crc_More_O0]; first | exact rfl | exact ⟨rfl, rfl⟩)) (by simp)
theorem crc_Sum_c (n : Nat) (l : List Int) (t : Tag) (hb : Bytes l) (hl : l.length ≤ 100000) (hn : l.length + 14 ≤ n) : cP n 66 false [LV 1 (I .u8) l t] = some (I .u16 (sumN l)) := by
  obtain ⟨n, rfl⟩ : ∃ m, n = m + 1 := ⟨n - 1, by omega⟩
  have q : cP n 84 false [I .u16 65535, LV 1 (I .u8) l .sh] = some (I .u16 (nMore 65535 (nB l))) := crc_More_c n 65535 (by omega) l .sh hb hl (by omega)
  unfold sumN
  exact cP_of (args' := [LV 1 (I .u8) l .sh]) (by simp [argEl_eq]) ((s_crc_Sum_eq _ _ _ _).trans (by unfold s_crc_Sum; simp -implicitDefEqProofs (disch := first | omega | (simp only [List.length_set, List.length_append, List.length_cons, List.length_nil, List.length_take, List.length_drop, List.length_map]; omega) | simp) [wrap_i64, wrap_u16_id, wrap_u8_id, tdiv_pos, tmod_pos, -getElem?_pos, -getElem?_neg, -List.length_eq_zero_iff, -List.getElem_cons_drop, q]; first | exact rfl | exact ⟨rfl, rfl⟩)) (by simp)
def putI (l : List Int) : List Int := l ++ [(sumN l : Int) % 256, (sumN l : Int) / 256]
theorem putI_length (l : List Int) : (putI l).length = l.length + 2 := by simp [putI]
theorem putI_bytes {l : List Int} (h : Bytes l) : Bytes (putI l) := by
  intro x hx
  have := sumN_lt l
  unfold putI at hx
  simp only [List.mem_append, List.mem_cons, List.not_mem_nil, or_false] at hx
  rcases hx with hx | rfl | rfl
  · exact h x hx
  · omega
  · omega
theorem buildL_u2 (a b : Int) : buildL false 1 2 (I .u8 0) [(0, I .u8 a), (1, I .u8 b)] = some (LV 1 (I .u8) [a, b] .ti) := rfl
theorem shrI_8 (x : Int) : shrI .u16 x 8 = x / 256 := shrI_w8 x
theorem crc_Put_c (n : Nat) (l : List Int) (t : Tag) (hb : Bytes l) (hl : l.length ≤ 100000) (hn : l.length + 16 ≤ n) : cP n 47 false [LV 1 (I .u8) l t] = some (LV 1 (I .u8) (putI l) .sh) := by
  obtain ⟨n, rfl⟩ : ∃ m, n = m + 1 := ⟨n - 1, by omega⟩
  have q := crc_Sum_c n l .sh hb hl (by omega)
  have hs := sumN_lt l
  unfold putI
  generalize sumN l = s at *
  have e1 : IntKind.wrap .u8 (s : Int) = ((s : Int) % 256) := wrap_u8 _
  have e2 : IntKind.wrap .u8 ((s : Int) / 256) = ((s : Int) / 256) := by rw [wrap_u8]; omega
  have e3 := buildL_u2 ((s : Int) % 256) ((s : Int) / 256)
  have e4 := shrI_8 (s : Int)
  have ha := appG_ti (e := 5) (ag := false) (sz := 1) (by_ := 1) (enc := I .u8) (xs := l) (ys := [((s : Int) % 256), ((s : Int) / 256)]) (t' := .ti) (H := []) (fl := 0) (by simp) rfl (by simp; omega) (by simp; omega)
  exact cP_of (args' := [LV 1 (I .u8) l .sh]) (by simp [argEl_eq]) ((s_crc_Put_eq _ _ _ _).trans (by unfold s_crc_Put; simp -implicitDefEqProofs (disch := first | omega | (simp only [List.length_set, List.length_append, List.length_cons, List.length_nil, List.length_take, List.length_drop, List.length_map]; omega) | simp) [wrap_i64, wrap_u16_id, wrap_u8_id, tdiv_pos, tmod_pos, -getElem?_pos, -getElem?_neg, -List.length_eq_zero_iff, -List.getElem_cons_drop, q, e1, e2, e3, e4, ha, List.take_length]; first | exact rfl | exact ⟨rfl, rfl⟩)) (by simp)
theorem nil_LV (t : Tag) : DV.list 0 [] t = LV 1 (I .u8) [] t := rfl
theorem crc_Cut_no (n : Nat) (l : List Int) (t : Tag) (hb : Bytes l) (hl : l.length ≤ 100000) (hn : l.length + 16 ≤ n) (hc : l.length < 2 ∨ sumN l ≠ 0) : cP n 85 false [LV 1 (I .u8) l t] = some (.tup [.list 0 [] .sh, Bo false]) := by
  obtain ⟨n, rfl⟩ : ∃ m, n = m + 1 := ⟨n - 1, by omega⟩
  have q := crc_Sum_c n l .sh hb hl (by omega)
  by_cases c1 : l.length < 2
  · exact cP_of (args' := [LV 1 (I .u8) l .sh]) (by simp [argEl_eq]) ((s_crc_Cut_eq _ _ _ _).trans (by unfold s_crc_Cut; simp -implicitDefEqProofs (disch := first | omega | (simp only [List.length_set, List.length_append, List.length_cons, List.length_nil, List.length_take, List.length_drop, List.length_map]; omega) | simp) [wrap_i64, wrap_u16_id, wrap_u8_id, tdiv_pos, tmod_pos, -getElem?_pos, -getElem?_neg, -List.length_eq_zero_iff, -List.getElem_cons_drop, c1]; first | exact rfl | exact ⟨rfl, rfl⟩)) (by simp)
  · have c2 := hc.resolve_left c1
    exact cP_of (args' := [LV 1 (I .u8) l .sh]) (by simp [argEl_eq]) ((s_crc_Cut_eq _ _ _ _).trans (by unfold s_crc_Cut; simp -implicitDefEqProofs (disch := first | omega | (simp only [List.length_set, List.length_append, List.length_cons, List.length_nil, List.length_take, List.length_drop, List.length_map]; omega) | simp) [wrap_i64, wrap_u16_id, wrap_u8_id, tdiv_pos, tmod_pos, -getElem?_pos, -getElem?_neg, -List.length_eq_zero_iff, -List.getElem_cons_drop, c1, q, c2]; first | exact rfl | exact ⟨rfl, rfl⟩)) (by simp)
theorem crc_Cut_c (n : Nat) (l : List Int) (t : Tag) (hb : Bytes l) (hl : l.length ≤ 100000) (hn : l.length + 16 ≤ n) (h2 : 2 ≤ l.length) (h0 : sumN l = 0) : cP n 85 false [LV 1 (I .u8) l t] = some (.tup [LV 1 (I .u8) (l.take (l.length - 2)) .sh, Bo true]) := by
  obtain ⟨n, rfl⟩ : ∃ m, n = m + 1 := ⟨n - 1, by omega⟩
  have q := crc_Sum_c n l .sh hb hl (by omega)
  simp only [h0, Int.natCast_zero] at q
  have e : ((l.length : Int) - 2).toNat = l.length - 2 := by omega
  obtain ⟨t2, H', ha, _⟩ := appG_all (e := 5) (ag := false) (sz := 1) (by_ := 1) (n0 := 0) (enc := I .u8) (xs := []) (ys := l.take (l.length - 2)) (t := .ti) (t' := .sh) (H := []) (fl := 0) (by omega) (by omega) (.inl rfl) rfl (by simp; omega) (by simp; omega)
  rw [← nil_LV, List.nil_append] at ha
  exact cP_of (r := .tup [LV 1 (I .u8) (l.take (l.length - 2)) t2, Bo true]) (args' := [LV 1 (I .u8) l .sh]) (by simp [argEl_eq]) ((s_crc_Cut_eq _ _ _ _).trans (by unfold s_crc_Cut; simp -implicitDefEqProofs (disch := first | omega | (simp only [List.length_set, List.length_append, List.length_cons, List.length_nil, List.length_take, List.length_drop, List.length_map]; omega) | simp) [wrap_i64, wrap_u16_id, wrap_u8_id, tdiv_pos, tmod_pos, -getElem?_pos, -getElem?_neg, -List.length_eq_zero_iff, -List.getElem_cons_drop, q, e, ha]; first | exact rfl | exact ⟨rfl, rfl⟩)) (by simp)
end Go.Proofs.YtcpgmbpndpcmdaaGreat
namespace Go.Proofs.YtcpgmbpndpcmdaaGreat
open Go
set_option linter.unusedSimpArgs false
set_option linter.unusedVariables false
set_option maxRecDepth 100000
def dif (a c b : Int) : Int := if a / b % 2 ≠ c / b % 2 then b else 0
theorem step_r (n fl : Nat) (rec : DV → DV → DV → DV → DV → Heap → R) (K : Ex → KF) (c a x b b2 : Int) (x5 : DV) (H : Heap) (e2 : b2 = 2 * b) (hc : 0 ≤ c ∧ c < 256) (ha : 0 ≤ a ∧ a < 256) (hx : 0 ≤ x ∧ x < 256) (hb : 1 ≤ b ∧ b ≤ 128) :
    s_triuneref01_step_B0 n fl rec K (I .u8 c) x5 (I .i64 a) (I .i64 x) (I .i64 b) H = rec (I .u8 c) x5 (I .i64 a) (I .i64 (x + dif a c b)) (I .i64 b2) H := by
  subst e2
  obtain ⟨b0, b1⟩ := hb
  have a1 := Int.ediv_nonneg ha.1 (by omega : 0 ≤ b)
  have a2 := Int.ediv_le_self b ha.1
  have c1 := Int.ediv_nonneg hc.1 (by omega : 0 ≤ b)
  have c2 := Int.ediv_le_self b hc.1
  unfold dif
  unfold s_triuneref01_step_B0
  by_cases h : a / b % 2 = c / b % 2
  · rw [if_neg (by simpa using h)]
    simp -implicitDefEqProofs (disch := first | omega | (simp only [List.length_set, List.length_append, List.length_cons, List.length_nil, List.length_take, List.length_drop, List.length_map]; omega) | simp) [wrap_i64, wrap_u16_id, wrap_u8_id, tdiv_pos, tmod_pos, -getElem?_pos, -getElem?_neg, -List.length_eq_zero_iff, -List.getElem_cons_drop, h]
  · rw [if_pos h]
    simp -implicitDefEqProofs (disch := first | omega | (simp only [List.length_set, List.length_append, List.length_cons, List.length_nil, List.length_take, List.length_drop, List.length_map]; omega) | simp) [wrap_i64, wrap_u16_id, wrap_u8_id, tdiv_pos, tmod_pos, -getElem?_pos, -getElem?_neg, -List.length_eq_zero_iff, -List.getElem_cons_drop, h]
theorem dif_r (a c b : Int) (hb : 0 ≤ b) : 0 ≤ dif a c b ∧ dif a c b ≤ b := by unfold dif; split <;> omega
theorem step_L0 (n fl : Nat) (K : Ex → KF) (c a : Int) (x5 : DV) (H : Heap) (m : Nat) (hc : 0 ≤ c ∧ c < 256) (ha : 0 ≤ a ∧ a < 256) :
    s_triuneref01_step_L0 n fl K (m + 9) (I .u8 c) x5 (I .i64 a) (I .i64 0) (I .i64 1) H = K (.exit 0) (s_triuneref01_step_O0 x5 (I .i64 a) (I .i64 (xsum a c 8))) H := by
  have e : xsum a c 8 = 0 + dif a c 1 + dif a c 2 + dif a c 4 + dif a c 8 + dif a c 16 + dif a c 32 + dif a c 64 + dif a c 128 := rfl
  have d1 := dif_r a c 1 (by omega)
  have d2 := dif_r a c 2 (by omega)
  have d3 := dif_r a c 4 (by omega)
  have d4 := dif_r a c 8 (by omega)
  have d5 := dif_r a c 16 (by omega)
  have d6 := dif_r a c 32 (by omega)
  have d7 := dif_r a c 64 (by omega)
  have d8 := dif_r a c 128 (by omega)
  rw [e]
  rw [s_triuneref01_step_L0, step_r _ _ _ _ c a _ 1 2 _ _ rfl hc ha (by omega) (by omega)]
  rw [s_triuneref01_step_L0, step_r _ _ _ _ c a _ 2 4 _ _ rfl hc ha (by omega) (by omega)]
  rw [s_triuneref01_step_L0, step_r _ _ _ _ c a _ 4 8 _ _ rfl hc ha (by omega) (by omega)]
  rw [s_triuneref01_step_L0, step_r _ _ _ _ c a _ 8 16 _ _ rfl hc ha (by omega) (by omega)]
  rw [s_triuneref01_step_L0, step_r _ _ _ _ c a _ 16 32 _ _ rfl hc ha (by omega) (by omega)]
  rw [s_triuneref01_step_L0, step_r _ _ _ _ c a _ 32 64 _ _ rfl hc ha (by omega) (by omega)]
  rw [s_triuneref01_step_L0, step_r _ _ _ _ c a _ 64 128 _ _ rfl hc ha (by omega) (by omega)]
  rw [s_triuneref01_step_L0, step_r _ _ _ _ c a _ 128 256 _ _ rfl hc ha (by omega) (by omega)]
  rw [s_triuneref01_step_L0]
  unfold s_triuneref01_step_B0
  simp -implicitDefEqProofs (disch := first | omega | (simp only [List.length_set, List.length_append, List.length_cons, List.length_nil, List.length_take, List.length_drop, List.length_map]; omega) | simp) [wrap_i64, wrap_u16_id, wrap_u8_id, tdiv_pos, tmod_pos, -getElem?_pos, -getElem?_neg, -List.length_eq_zero_iff, -List.getElem_cons_drop]
theorem step_L1 (n fl : Nat) (K : Ex → KF) (x0 : Nat) (hx : x0 < 65536) : ∀ (m j : Nat) (H : Heap), 8 < m + j → j ≤ 8 →
    s_triuneref01_step_L1 n fl K m (I .u16 (nBits j x0)) (I .i64 j) H = K (.exit 2) (s_triuneref01_step_O1 (I .u16 (nBits 8 x0))) H := by
  intro m
  induction m with
  | zero => intro j H h; omega
  | succ m ih =>
    intro j H hm hj
    unfold s_triuneref01_step_L1 s_triuneref01_step_B1
    by_cases h : j < 8
    · have ih' := ih (j + 1) H (by omega) (by omega)
      have hj2 : ((j + 1 : Nat) : Int) = (j : Int) + 1 := by omega
      rw [hj2] at ih'
      have hb := nBits_lt j x0 hx
      have e1 : nBits (j + 1) x0 = nBit (nBits j x0) := rfl
      rw [e1] at ih'
      generalize nBits j x0 = y at *
      rcases (by omega : y % 2 = 0 ∨ y % 2 = 1) with h0 | h0
      · have e2 : (nBit y : Int) = (y : Int) / 2 := by unfold nBit; rw [if_neg (by omega)]; simp
        rw [e2] at ih'
        simp -implicitDefEqProofs (disch := first | omega | (simp only [List.length_set, List.length_append, List.length_cons, List.length_nil, List.length_take, List.length_drop, List.length_map]; omega) | simp) [wrap_i64, wrap_u16_id, wrap_u8_id, tdiv_pos, tmod_pos, -getElem?_pos, -getElem?_neg, -List.length_eq_zero_iff, -List.getElem_cons_drop, h, ih']
      · have x1 : xorI .u16 ((y : Int) / 2) 40961 = (nBit y : Int) := by
          have hy2 : ((y : Int) / 2) = ((y / 2 : Nat) : Int) := by omega
          rw [hy2]
          have := xorI_nat .u16 (y / 2) 40961 rfl (by show y / 2 < 65536; omega) (by decide)
          unfold nBit
          rw [if_pos h0]
          exact this
        simp -implicitDefEqProofs (disch := first | omega | (simp only [List.length_set, List.length_append, List.length_cons, List.length_nil, List.length_take, List.length_drop, List.length_map]; omega) | simp) [wrap_i64, wrap_u16_id, wrap_u8_id, tdiv_pos, tmod_pos, -getElem?_pos, -getElem?_neg, -List.length_eq_zero_iff, -List.getElem_cons_drop, h, x1, ih']
    · have : j = 8 := by omega
      subst this
      simp -implicitDefEqProofs (disch := first | omega | (simp only [List.length_set, List.length_append, List.length_cons, List.length_nil, List.length_take, List.length_drop, List.length_map]; omega) | simp) [wrap_i64, wrap_u16_id, wrap_u8_id, tdiv_pos, tmod_pos, -getElem?_pos, -getElem?_neg, -List.length_eq_zero_iff, -List.getElem_cons_drop]
theorem step_c (n : Nat) (s : Nat) (hs : s < 65536) (c : Int) (hc : 0 ≤ c ∧ c < 256) (hn : 12 ≤ n) : cP n 111 false [I .u16 s, I .u8 c] = some (I .u16 (nBits 8 (s ^^^ (lowB c).toNat) : Nat)) := by
  obtain ⟨n, rfl⟩ : ∃ m, n = m + 1 := ⟨n - 1, by omega⟩
  obtain ⟨m, hm⟩ : ∃ m, n = m + 9 := ⟨n - 9, by omega⟩
  have hc2 := (lowB c).toNat_lt
  have e := lowB_of c hc
  have ha : 0 ≤ (s : Int) % 256 ∧ (s : Int) % 256 < 256 := by omega
  have hx := xsum_le ((s : Int) % 256) c 8
  have h28 : (2 : Int) ^ 8 = 256 := rfl
  rw [h28] at hx
  have q0 : ∀ K, loopG [1, 5, 6, 7, 8] [5, 6, 7] 51 (s_triuneref01_step_b0 n 0) n (s_triuneref01_step_I0 (I .u8 c) (I .i64 s) (I .i64 ((s : Int) % 256)) (I .i64 0) (I .i64 1)) [] K = K (.exit 0) (s_triuneref01_step_O0 (I .i64 s) (I .i64 ((s : Int) % 256)) (I .i64 (xsum ((s : Int) % 256) c 8))) [] := by
    intro K
    rw [s_triuneref01_step_L0_eq]
    have : s_triuneref01_step_L0 n 0 K n = s_triuneref01_step_L0 n 0 K (m + 9) := by rw [← hm]
    rw [this]
    exact step_L0 n 0 K c _ _ [] m hc ha
  have hxx : s ^^^ (lowB c).toNat < 65536 := Nat.xor_lt_two_pow (n := 16) hs (by omega)
  have e2 : (s : Int) - (s : Int) % 256 + xsum ((s : Int) % 256) c 8 = ((s ^^^ (lowB c).toNat : Nat) : Int) := by
    have e3 : ((s : Int) % 256) = ((s % 256 : Nat) : Int) := by omega
    have h4 : ((s % 256) ^^^ (lowB c).toNat) % 2 ^ 8 < 2 ^ 8 := Nat.mod_lt _ (by omega)
    have hle : s % 256 ≤ s := Nat.mod_le _ _
    conv => lhs; rw [e]
    rw [e3, xsum_nat, xor_split s _ (by omega), Int.natCast_add, Int.natCast_sub hle]
  have q1 : ∀ K, loopG [0, 9] [0] 51 (s_triuneref01_step_b1 n 0) n (s_triuneref01_step_I1 (I .u16 ((s ^^^ (lowB c).toNat : Nat) : Int)) (I .i64 0)) [] K = _ := fun K => (s_triuneref01_step_L1_eq _ _ _ _ _ _ _).trans (step_L1 n 0 K (s ^^^ (lowB c).toNat) hxx n 0 [] (by omega) (by omega))
  generalize s ^^^ (lowB c).toNat = z at *
  generalize xsum ((s : Int) % 256) c 8 = xs at *
  exact cP_of (args' := [I .u16 s, I .u8 c]) (by simp [argEl_eq]) ((s_triuneref01_step_eq _ _ _ _ _).trans (by unfold s_triuneref01_step; simp -implicitDefEqProofs (disch := first | omega | (simp only [List.length_set, List.length_append, List.length_cons, List.length_nil, List.length_take, List.length_drop, List.length_map]; omega) | simp) [wrap_i64, wrap_u16_id, wrap_u8_id, tdiv_pos, tmod_pos, -getElem?_pos, -getElem?_neg, -List.length_eq_zero_iff, -List.getElem_cons_drop, q0, s_triuneref01_step_O0, e2, q1, s_triuneref01_step_O1]; first | exact rfl | exact ⟨rfl, rfl⟩)) (by simp)
theorem ref01_More_L0 (n fl : Nat) (K : Ex → KF) (s : Nat) (hs : s < 65536) (l : List Int) (t : Tag) (hb : Bytes l) (hl : l.length ≤ 100000) (hn : 13 ≤ n) : ∀ (m i : Nat) (H : Heap), l.length < m + i → i ≤ l.length →
    s_triuneref01_More_L0 n fl K m (I .u16 (nMore s ((nB l).take i))) (LV 1 (I .u8) l t) (I .i64 i) H = K (.exit 0) (s_triuneref01_More_O0 (I .u16 (nMore s (nB l)))) H := by
  intro m
  induction m with
  | zero => intro i H h; omega
  | succ m ih =>
    intro i H hm hi
    unfold s_triuneref01_More_L0 s_triuneref01_More_B0
    by_cases h : i < l.length
    · have ih' := ih (i + 1) H (by omega) (by omega)
      have hi2 : ((i + 1 : Nat) : Int) = (i : Int) + 1 := by omega
      rw [hi2, nMore_snoc s (nB l) i (by rw [nB_length]; exact h), nB_get l i h] at ih'
      have hy := nMore_lt ((nB l).take i) s hs
      generalize nMore s ((nB l).take i) = y at *
      have q := step_c n y hy l[i] (hb _ (List.getElem_mem h)) (by omega)
      simp -implicitDefEqProofs (disch := first | omega | (simp only [List.length_set, List.length_append, List.length_cons, List.length_nil, List.length_take, List.length_drop, List.length_map]; omega) | simp) [wrap_i64, wrap_u16_id, wrap_u8_id, tdiv_pos, tmod_pos, -getElem?_pos, -getElem?_neg, -List.length_eq_zero_iff, -List.getElem_cons_drop, h, q, ih']
    · have : i = l.length := by omega
      subst this
      have e : (nB l).take l.length = nB l := List.take_of_length_le (by rw [nB_length]; omega)
      rw [e]
      simp -implicitDefEqProofs (disch := first | omega | (simp only [List.length_set, List.length_append, List.length_cons, List.length_nil, List.length_take, List.length_drop, List.length_map]; omega) | simp) [wrap_i64, wrap_u16_id, wrap_u8_id, tdiv_pos, tmod_pos, -getElem?_pos, -getElem?_neg, -List.length_eq_zero_iff, -List.getElem_cons_drop]
theorem ref01_More_c (n : Nat) (s : Nat) (hs : s < 65536) (l : List Int) (t : Tag) (hb : Bytes l) (hl : l.length ≤ 100000) (hn : l.length + 15 ≤ n) : cP n 90 false [I .u16 s, LV 1 (I .u8) l t] = some (I .u16 (nMore s (nB l))) := by
  obtain ⟨n, rfl⟩ : ∃ m, n = m + 1 := ⟨n - 1, by omega⟩
  have q : ∀ K, loopG [0, 1, 5] [0] 19 (s_triuneref01_More_b0 n 0) n (s_triuneref01_More_I0 (I .u16 s) (LV 1 (I .u8) l .sh) (I .i64 0)) [] K = _ := fun K => (s_triuneref01_More_L0_eq _ _ _ _ _ _ _ _).trans (ref01_More_L0 n 0 K s hs l .sh hb hl (by omega) n 0 [] (by omega) (by omega))
  exact cP_of (args' := [I .u16 s, LV 1 (I .u8) l .sh]) (by simp [argEl_eq]) ((s_triuneref01_More_eq _ _ _ _ _).trans (by unfold s_triuneref01_More; simp -implicitDefEqProofs (disch := first | omega | (simp only [List.length_set, List.length_append, List.length_cons, List.length_nil, List.length_take, List.length_drop, List.length_map]; omega) | simp) [wrap_i64, wrap_u16_id, wrap_u8_id, tdiv_pos, tmod_pos, -getElem?_pos, -getElem?_neg, -List.length_eq_zero_iff, -List.getElem_cons_drop, q, s_triuneref01_More_O0]; first | exact rfl | exact ⟨rfl, rfl⟩)) (by simp)
theorem ref01_Sum_c (n : Nat) (l : List Int) (t : Tag) (hb : Bytes l) (hl : l.length ≤ 100000) (hn : l.length + 17 ≤ n) : cP n 72 false [LV 1 (I .u8) l t] = some (I .u16 (sumN l)) := by
  obtain ⟨n, rfl⟩ : ∃ m, n = m + 1 := ⟨n - 1, by omega⟩
  have q : cP n 90 false [I .u16 65535, LV 1 (I .u8) l .sh] = some (I .u16 (nMore 65535 (nB l))) := ref01_More_c n 65535 (by omega) l .sh hb hl (by omega)
  unfold sumN
  exact cP_of (args' := [LV 1 (I .u8) l .sh]) (by simp [argEl_eq]) ((s_triuneref01_Sum_eq _ _ _ _).trans (by unfold s_triuneref01_Sum; simp -implicitDefEqProofs (disch := first | omega | (simp only [List.length_set, List.length_append, List.length_cons, List.length_nil, List.length_take, List.length_drop, List.length_map]; omega) | simp) [wrap_i64, wrap_u16_id, wrap_u8_id, tdiv_pos, tmod_pos, -getElem?_pos, -getElem?_neg, -List.length_eq_zero_iff, -List.getElem_cons_drop, q]; first | exact rfl | exact ⟨rfl, rfl⟩)) (by simp)
theorem buildL_u0 : buildL false 1 0 (I .u8 0) [] = some (LV 1 (I .u8) [] .ti) := rfl
theorem ref01_Put_c (n : Nat) (l : List Int) (t : Tag) (hb : Bytes l) (hl : l.length ≤ 100000) (hn : l.length + 20 ≤ n) : cP n 51 false [LV 1 (I .u8) l t] = some (LV 1 (I .u8) (putI l) .sh) := by
  obtain ⟨n, rfl⟩ : ∃ m, n = m + 1 := ⟨n - 1, by omega⟩
  have q := ref01_Sum_c n l .sh hb hl (by omega)
  have hs := sumN_lt l
  unfold putI
  generalize sumN l = s at *
  have e1 : IntKind.wrap .u8 ((s : Int) % 256) = ((s : Int) % 256) := wrap_u8_id _ (by omega) (by omega)
  have e2 : IntKind.wrap .u8 ((s : Int) / 256) = ((s : Int) / 256) := wrap_u8_id _ (by omega) (by omega)
  have e3 := buildL_u2 ((s : Int) % 256) ((s : Int) / 256)
  have e4 := buildL_u0
  obtain ⟨t1, H1, ha, ht1, hl1, _⟩ := appG_all (e := 5) (ag := false) (sz := 1) (by_ := 1) (n0 := 0) (enc := I .u8) (xs := []) (ys := l) (t := .ti) (t' := .sh) (H := []) (fl := 0) (by omega) (by omega) (.inl rfl) rfl (by simp; omega) (by simp; omega)
  rw [List.nil_append] at ha ht1
  obtain ⟨t2, H2, ha2, _⟩ := appG_all (e := 5) (ag := false) (sz := 1) (by_ := 1) (n0 := 0) (enc := I .u8) (xs := l) (ys := [((s : Int) % 256), ((s : Int) / 256)]) (t := t1) (t' := .ti) (H := H1) (fl := 0) (by omega) (by omega) ht1 rfl (by simp; omega) (by simp; omega)
  exact cP_of (r := LV 1 (I .u8) (l ++ [((s : Int) % 256), ((s : Int) / 256)]) t2) (args' := [LV 1 (I .u8) l .sh]) (by simp [argEl_eq]) ((s_triuneref01_Put_eq _ _ _ _).trans (by unfold s_triuneref01_Put; simp -implicitDefEqProofs (disch := first | omega | (simp only [List.length_set, List.length_append, List.length_cons, List.length_nil, List.length_take, List.length_drop, List.length_map]; omega) | simp) [wrap_i64, wrap_u16_id, wrap_u8_id, tdiv_pos, tmod_pos, -getElem?_pos, -getElem?_neg, -List.length_eq_zero_iff, -List.getElem_cons_drop, q, e1, e2, e3, e4, ha, ha2]; first | exact rfl | exact ⟨rfl, rfl⟩)) (by simp)
theorem nB_inj {l1 l2 : List Int} (h1 : Bytes l1) (h2 : Bytes l2) (h : nB l1 = nB l2) : l1 = l2 := by
  have hl : l1.length = l2.length := by have := congrArg List.length h; simpa [nB_length] using this
  refine List.ext_getElem hl fun i a b => ?_
  have e1 := nB_get l1 i a
  have e2 := nB_get l2 i b
  have e3 : lowB l1[i] = lowB l2[i] := by rw [← e1, ← e2]; simp only [h]
  rw [lowB_of _ (h1 _ (List.getElem_mem a)), lowB_of _ (h2 _ (List.getElem_mem b)), e3]
theorem sumN_crc (l : List Int) : crcMore 65535 (nB l) = (sumN l : Int) := crcMore_nat (nB l) 65535 (by omega)
theorem nB_put (l : List Int) : nB (putI l) = crcPut (nB l) := by
  have h := sumN_lt l
  unfold putI crcPut
  rw [sumN_crc]
  have : (sumN l : Int) / 256 % 256 = (sumN l : Int) / 256 := by omega
  rw [this]
  simp [nB]
theorem putI_take (l : List Int) (hb : Bytes l) (h2 : 2 ≤ l.length) : putI (l.take (l.length - 2)) = l ↔ sumN l = 0 := by
  have h := crcPut_take (nB l) (by rw [nB_length]; exact h2)
  rw [nB_length, ← nB_take, ← nB_put, sumN_crc] at h
  constructor
  · intro e
    have := h.1 (by rw [e])
    exact_mod_cast this
  · intro e
    exact nB_inj (putI_bytes fun x hx => hb x (List.mem_of_mem_take hx)) hb (h.2 (by rw [e]; rfl))
theorem ref01_Cut_no (n : Nat) (l : List Int) (t : Tag) (hb : Bytes l) (hl : l.length ≤ 100000) (hn : l.length + 25 ≤ n) (hc : l.length < 2 ∨ sumN l ≠ 0) : cP n 52 false [LV 1 (I .u8) l t] = some (.tup [.list 0 [] .sh, Bo false]) := by
  obtain ⟨n, rfl⟩ : ∃ m, n = m + 1 := ⟨n - 1, by omega⟩
  by_cases c1 : l.length < 2
  · exact cP_of (args' := [LV 1 (I .u8) l .sh]) (by simp [argEl_eq]) ((s_triuneref01_Cut_eq _ _ _ _).trans (by unfold s_triuneref01_Cut; simp -implicitDefEqProofs (disch := first | omega | (simp only [List.length_set, List.length_append, List.length_cons, List.length_nil, List.length_take, List.length_drop, List.length_map]; omega) | simp) [wrap_i64, wrap_u16_id, wrap_u8_id, tdiv_pos, tmod_pos, -getElem?_pos, -getElem?_neg, -List.length_eq_zero_iff, -List.getElem_cons_drop, c1]; first | exact rfl | exact ⟨rfl, rfl⟩)) (by simp)
  · have c2 := hc.resolve_left c1
    have q := ref01_Put_c n (l.take (l.length - 2)) .sh (fun x hx => hb x (List.mem_of_mem_take hx)) (by simp; omega) (by simp; omega)
    have q2 := ref01_Same_c n (putI (l.take (l.length - 2))) l .sh .sh (by rw [putI_length]; simp; omega) (by rw [putI_length]; simp; omega)
    have c3 : ¬ putI (l.take (l.length - 2)) = l := fun h => c2 ((putI_take l hb (by omega)).1 h)
    rw [decide_eq_false c3] at q2
    have e : ((l.length : Int) - 2).toNat = l.length - 2 := by omega
    exact cP_of (args' := [LV 1 (I .u8) l .sh]) (by simp [argEl_eq]) ((s_triuneref01_Cut_eq _ _ _ _).trans (by unfold s_triuneref01_Cut; simp -implicitDefEqProofs (disch := first | omega | (simp only [List.length_set, List.length_append, List.length_cons, List.length_nil, List.length_take, List.length_drop, List.length_map]; omega) | simp) [wrap_i64, wrap_u16_id, wrap_u8_id, tdiv_pos, tmod_pos, -getElem?_pos, -getElem?_neg, -List.length_eq_zero_iff, -List.getElem_cons_drop, c1, q, q2, e]; first | exact rfl | exact ⟨rfl, rfl⟩)) (by simp)
theorem ref01_Cut_c (n : Nat) (l : List Int) (t : Tag) (hb : Bytes l) (hl : l.length ≤ 100000) (hn : l.length + 25 ≤ n) (h2 : 2 ≤ l.length) (h0 : sumN l = 0) : cP n 52 false [LV 1 (I .u8) l t] = some (.tup [LV 1 (I .u8) (l.take (l.length - 2)) .sh, Bo true]) := by
  obtain ⟨n, rfl⟩ : ∃ m, n = m + 1 := ⟨n - 1, by omega⟩
  have q := ref01_Put_c n (l.take (l.length - 2)) .sh (fun x hx => hb x (List.mem_of_mem_take hx)) (by simp; omega) (by simp; omega)
  have q2 := ref01_Same_c n (putI (l.take (l.length - 2))) l .sh .sh (by rw [putI_length]; simp; omega) (by rw [putI_length]; simp; omega)
  have c3 : putI (l.take (l.length - 2)) = l := (putI_take l hb (by omega)).2 h0
  rw [decide_eq_true c3] at q2
  have e : ((l.length : Int) - 2).toNat = l.length - 2 := by omega
  have e4 := buildL_u0
  obtain ⟨t2, H', ha, _⟩ := appG_all (e := 5) (ag := false) (sz := 1) (by_ := 1) (n0 := 0) (enc := I .u8) (xs := []) (ys := l.take (l.length - 2)) (t := .ti) (t' := .sh) (H := []) (fl := 0) (by omega) (by omega) (.inl rfl) rfl (by simp; omega) (by simp; omega)
  rw [List.nil_append] at ha
  exact cP_of (r := .tup [LV 1 (I .u8) (l.take (l.length - 2)) t2, Bo true]) (args' := [LV 1 (I .u8) l .sh]) (by simp [argEl_eq]) ((s_triuneref01_Cut_eq _ _ _ _).trans (by unfold s_triuneref01_Cut; simp -implicitDefEqProofs (disch := first | omega | (simp only [List.length_set, List.length_append, List.length_cons, List.length_nil, List.length_take, List.length_drop, List.length_map]; omega) | simp) [wrap_i64, wrap_u16_id, wrap_u8_id, tdiv_pos, tmod_pos, -getElem?_pos, -getElem?_neg, -List.length_eq_zero_iff, -List.getElem_cons_drop, q, q2, e, e4, ha]; first | exact rfl | exact ⟨rfl, rfl⟩)) (by simp)
end Go.Proofs.YtcpgmbpndpcmdaaGreat
namespace Go.Proofs.YtcpgmbpndpcmdaaGreat
open Go
set_option linter.unusedSimpArgs false
set_option linter.unusedVariables false
@[simp] theorem cells_iface (t : TypeId) (d : DV) : (DV.iface t d).cells = [.iface t d] := rfl
@[simp] theorem leaf_iface (t : TypeId) (d : DV) : (DV.iface t d).leaf = true := rfl
def trV (n e : Int) : DV := .iface 116 (.agg [I .i64 n, .iface 28 (I .i64 e)])
theorem is_c (n : Nat) (H : Heap) (fl : Nat) (a e x : Int) : callG Tryz.prog ENV (n + 1) 65 [trV a e, .iface 28 (I .i64 x)] H fl = some (Bo (e == x), H) := by kernel_rfl
theorem Is_c (n : Nat) (H : Heap) (a e x : Int) (hn : 1 ≤ n) : cO n 65 [trV a e, .iface 28 (I .i64 x)] H = some (Bo (e == x)) := by
  obtain ⟨n, rfl⟩ : ∃ m, n = m + 1 := ⟨n - 1, by omega⟩
  exact cO_of (is_c n H _ a e x) rfl
def wiV (n lo hi : Int) : DV := if n < lo then trV n 3 else if hi < n then trV n 4 else .flat .nilIface
theorem old_tr (n : Nat) (H : Heap) (a e : Int) : oldD n H (trV a e) = some (trV a e) := rfl
theorem within_c (n : Nat) (H : Heap) (a lo hi : Int) (hn : 1 ≤ n) : cO n 45 [I .i64 a, I .i64 lo, I .i64 hi] H = some (wiV a lo hi) := by
  obtain ⟨n, rfl⟩ : ∃ m, n = m + 1 := ⟨n - 1, by omega⟩
  unfold wiV
  by_cases c1 : a < lo
  · rw [if_pos c1]
    exact cO_of (H' := H) (r := trV a 3) ((s_rtu_within_eq _ _ _ _ _ _).trans (by unfold s_rtu_within; simp -implicitDefEqProofs (disch := first | omega | (simp only [List.length_set, List.length_append, List.length_cons, List.length_nil, List.length_take, List.length_drop, List.length_map]; omega) | simp) [wrap_i64, wrap_u16_id, wrap_u8_id, tdiv_pos, tmod_pos, -getElem?_pos, -getElem?_neg, -List.length_eq_zero_iff, -List.getElem_cons_drop, c1, trV])) (old_tr _ _ _ _)
  · rw [if_neg c1]
    by_cases c2 : hi < a
    · rw [if_pos c2]
      exact cO_of (H' := H) (r := trV a 4) ((s_rtu_within_eq _ _ _ _ _ _).trans (by unfold s_rtu_within; simp -implicitDefEqProofs (disch := first | omega | (simp only [List.length_set, List.length_append, List.length_cons, List.length_nil, List.length_take, List.length_drop, List.length_map]; omega) | simp) [wrap_i64, wrap_u16_id, wrap_u8_id, tdiv_pos, tmod_pos, -getElem?_pos, -getElem?_neg, -List.length_eq_zero_iff, -List.getElem_cons_drop, c1, c2, trV])) (old_tr _ _ _ _)
    · rw [if_neg c2]
      exact cO_of (H' := H) (r := .flat .nilIface) ((s_rtu_within_eq _ _ _ _ _ _).trans (by unfold s_rtu_within; simp -implicitDefEqProofs (disch := first | omega | (simp only [List.length_set, List.length_append, List.length_cons, List.length_nil, List.length_take, List.length_drop, List.length_map]; omega) | simp) [wrap_i64, wrap_u16_id, wrap_u8_id, tdiv_pos, tmod_pos, -getElem?_pos, -getElem?_neg, -List.length_eq_zero_iff, -List.getElem_cons_drop, c1, c2])) rfl
theorem told_c (n : Nat) (H : Heap) (a e : Int) (t : Tag) (hn : 5 ≤ n) (he : e = 3 ∨ e = 4) : cO n 46 [trV a e, LV 1 (I .i64) [3, 4] t] H = some (I .i64 e) := by
  obtain ⟨n, rfl⟩ : ∃ m, n = m + 4 := ⟨n - 4, by omega⟩
  have i3 := Is_c (n + 3) H a e 3 (by omega)
  have i4 := Is_c (n + 3) H a e 4 (by omega)
  have q : ∀ K, loopG [0, 7, 8, 9] [4] 19 (s_rtu_told_b0 (n + 3) H.length) (n + 3) (s_rtu_told_I0 (trV a e) (LV 1 (I .i64) [3, 4] t) (I .i64 2) (I .i64 0)) H K = K .ret (s_rtu_told_O0 (I .i64 e)) H := by
    intro K
    rw [s_rtu_told_L0_eq]
    rcases he with rfl | rfl
    · have e1 : ((3 : Int) == 3) = true := by decide
      rw [e1] at i3
      simp -implicitDefEqProofs (disch := first | omega | (simp only [List.length_set, List.length_append, List.length_cons, List.length_nil, List.length_take, List.length_drop, List.length_map]; omega) | simp) [wrap_i64, wrap_u16_id, wrap_u8_id, tdiv_pos, tmod_pos, -getElem?_pos, -getElem?_neg, -List.length_eq_zero_iff, -List.getElem_cons_drop, s_rtu_told_L0, s_rtu_told_B0, i3]
    · have e1 : ((4 : Int) == 3) = false := by decide
      have e2 : ((4 : Int) == 4) = true := by decide
      rw [e1] at i3
      rw [e2] at i4
      simp -implicitDefEqProofs (disch := first | omega | (simp only [List.length_set, List.length_append, List.length_cons, List.length_nil, List.length_take, List.length_drop, List.length_map]; omega) | simp) [wrap_i64, wrap_u16_id, wrap_u8_id, tdiv_pos, tmod_pos, -getElem?_pos, -getElem?_neg, -List.length_eq_zero_iff, -List.getElem_cons_drop, s_rtu_told_L0, s_rtu_told_B0, i3, i4]
  exact cO_of (H' := H) (r := I .i64 e) ((s_rtu_told_eq _ _ _ _ _).trans (by unfold s_rtu_told; simp -implicitDefEqProofs (disch := first | omega | (simp only [List.length_set, List.length_append, List.length_cons, List.length_nil, List.length_take, List.length_drop, List.length_map]; omega) | simp) [wrap_i64, wrap_u16_id, wrap_u8_id, tdiv_pos, tmod_pos, -getElem?_pos, -getElem?_neg, -List.length_eq_zero_iff, -List.getElem_cons_drop, q, s_rtu_told_O0])) rfl
structure Fm where
  u : Int
  p : List Int
def fmE (x : Fm) (t : Tag) : DV := .agg [I .u8 x.u, LV 1 (I .u8) x.p t]
structure FmOk (x : Fm) : Prop where
  u : 0 ≤ x.u ∧ x.u < 256
  p : Bytes x.p
  l : x.p.length ≤ 1000
theorem FmOk.all {x : Fm} (h : FmOk x) : Bytes (x.u :: x.p) := by
  intro y hy
  rcases List.mem_cons.mp hy with rfl | hy
  · exact h.u
  · exact h.p y hy
def bytV (x : Fm) : DV := if x.p.length < 1 then .tup [.list 0 [] .sh, I .i64 3] else if 253 < x.p.length then .tup [.list 0 [] .sh, I .i64 4] else .tup [LV 1 (I .u8) (putI (x.u :: x.p)) .sh, I .i64 0]
theorem nen_tr (x y : Operand) (a e : Int) : binD Tryz.prog .neq 97 x y (trV a e) (.flat .nilIface) = some (Bo true) := by kernel_rfl
theorem nen_nil (k : Nat) : binD Tryz.prog .neq 97 (.tmp k) (.const .nilIface) (.flat .nilIface) (.flat .nilIface) = some (Bo false) := by kernel_rfl
theorem buildL_34 : buildL false 1 2 (I .i64 0) [(0, I .i64 3), (1, I .i64 4)] = some (LV 1 (I .i64) [3, 4] .ti) := rfl
theorem buildL_u1 (a : Int) : buildL false 1 1 (I .u8 0) [(0, I .u8 a)] = some (LV 1 (I .u8) [a] .ti) := rfl
theorem rtu_Bytes_c (n : Nat) (x : Fm) (t : Tag) (ok : FmOk x) (hn : 1100 ≤ n) : cP n 20 false [fmE x t] = some (bytV x) := by
  obtain ⟨n, rfl⟩ : ∃ m, n = m + 1 := ⟨n - 1, by omega⟩
  obtain ⟨u, p⟩ := x
  have hl := ok.l
  have hb := ok.all
  simp only at hl hb
  have go : ∀ r r', (∃ H', s_rtu_Bytes n [] 0 (fmE ⟨u, p⟩ .sh) = some (r, H')) → (∀ H', outD false H' r = some r') → bytV ⟨u, p⟩ = r' → cP (n + 1) 20 false [fmE ⟨u, p⟩ t] = some (bytV ⟨u, p⟩) := by
    intro r r' ⟨H', h⟩ h2 h3
    rw [h3]
    exact cP_of (args' := [fmE ⟨u, p⟩ .sh]) (by simp [argEl_eq, fmE]) ((s_rtu_Bytes_eq _ _ _ _).trans h) (h2 H')
  have hw := fun H => within_c n H p.length 1 253 (by omega)
  have ht3 := fun H => told_c n H p.length 3 .ti (by omega) (.inl rfl)
  have ht4 := fun H => told_c n H p.length 4 .ti (by omega) (.inr rfl)
  have h34 := buildL_34
  unfold wiV at hw
  by_cases c1 : p.length < 1
  · rw [if_pos (by omega)] at hw
    refine go (.tup [.list 0 [] .ti, I .i64 3]) (.tup [.list 0 [] .sh, I .i64 3]) ?_ (fun H' => by simp <;> rfl) (by unfold bytV; rw [if_pos c1])
    exact ⟨_, by unfold s_rtu_Bytes fmE; simp -implicitDefEqProofs (disch := first | omega | (simp only [List.length_set, List.length_append, List.length_cons, List.length_nil, List.length_take, List.length_drop, List.length_map]; omega) | simp) [wrap_i64, wrap_u16_id, wrap_u8_id, tdiv_pos, tmod_pos, -getElem?_pos, -getElem?_neg, -List.length_eq_zero_iff, -List.getElem_cons_drop, hw, nen_tr, h34, ht3]; rfl⟩
  by_cases c2 : 253 < p.length
  · rw [if_neg (by omega), if_pos (by omega)] at hw
    refine go (.tup [.list 0 [] .ti, I .i64 4]) (.tup [.list 0 [] .sh, I .i64 4]) ?_ (fun H' => by simp <;> rfl) (by unfold bytV; rw [if_neg c1, if_pos c2])
    exact ⟨_, by unfold s_rtu_Bytes fmE; simp -implicitDefEqProofs (disch := first | omega | (simp only [List.length_set, List.length_append, List.length_cons, List.length_nil, List.length_take, List.length_drop, List.length_map]; omega) | simp) [wrap_i64, wrap_u16_id, wrap_u8_id, tdiv_pos, tmod_pos, -getElem?_pos, -getElem?_neg, -List.length_eq_zero_iff, -List.getElem_cons_drop, hw, nen_tr, h34, ht4]; rfl⟩
  · rw [if_neg (by omega), if_neg (by omega)] at hw
    have hP := crc_Put_c n (u :: p)
    have h1 := buildL_u1 u
    obtain ⟨t2, H', ha, _⟩ := appG_all (e := 5) (ag := false) (sz := 1) (by_ := 1) (n0 := 1) (enc := I .u8) (xs := [u]) (ys := p) (t := .ti) (t' := .sh) (H := [.cells 67 [I .u8 u, LV 1 (I .u8) p .sh]]) (fl := 0) (by omega) (by simp) (.inl rfl) rfl (by simp; omega) (by simp; omega)
    rw [List.cons_append, List.nil_append] at ha
    have hP := crc_Put_c n (u :: p) t2 hb (by simp; omega) (by simp; omega)
    refine go (.tup [LV 1 (I .u8) (putI (u :: p)) .sh, I .i64 0]) (.tup [LV 1 (I .u8) (putI (u :: p)) .sh, I .i64 0]) ?_ (fun H' => by simp) (by unfold bytV; rw [if_neg c1, if_neg c2])
    exact ⟨_, by unfold s_rtu_Bytes fmE; simp -implicitDefEqProofs (disch := first | omega | (simp only [List.length_set, List.length_append, List.length_cons, List.length_nil, List.length_take, List.length_drop, List.length_map]; omega) | simp) [wrap_i64, wrap_u16_id, wrap_u8_id, tdiv_pos, tmod_pos, -getElem?_pos, -getElem?_neg, -List.length_eq_zero_iff, -List.getElem_cons_drop, hw, nen_nil, h1, ha, hP]; rfl⟩
theorem ref03_Bytes_c (n : Nat) (x : Fm) (t : Tag) (ok : FmOk x) (hn : 1100 ≤ n) : cP n 26 false [fmE x t] = some (bytV x) := by
  obtain ⟨n, rfl⟩ : ∃ m, n = m + 1 := ⟨n - 1, by omega⟩
  obtain ⟨u, p⟩ := x
  have hl := ok.l
  have hb := ok.all
  simp only at hl hb
  have go : ∀ r r', (∃ H', s_triuneref03_Bytes n [] 0 (fmE ⟨u, p⟩ .sh) = some (r, H')) → (∀ H', outD false H' r = some r') → bytV ⟨u, p⟩ = r' → cP (n + 1) 26 false [fmE ⟨u, p⟩ t] = some (bytV ⟨u, p⟩) := by
    intro r r' ⟨H', h⟩ h2 h3
    rw [h3]
    exact cP_of (args' := [fmE ⟨u, p⟩ .sh]) (by simp [argEl_eq, fmE]) ((s_triuneref03_Bytes_eq _ _ _ _).trans h) (h2 H')
  by_cases c1 : p.length < 1
  · have c0 : p.length = 0 := by omega
    refine go (.tup [.list 0 [] .ti, I .i64 3]) (.tup [.list 0 [] .sh, I .i64 3]) ?_ (fun H' => by simp <;> rfl) (by unfold bytV; rw [if_pos c1])
    exact ⟨_, by unfold s_triuneref03_Bytes fmE; simp -implicitDefEqProofs (disch := first | omega | (simp only [List.length_set, List.length_append, List.length_cons, List.length_nil, List.length_take, List.length_drop, List.length_map]; omega) | simp) [wrap_i64, wrap_u16_id, wrap_u8_id, tdiv_pos, tmod_pos, -getElem?_pos, -getElem?_neg, -List.length_eq_zero_iff, -List.getElem_cons_drop, c0]; rfl⟩
  by_cases c2 : 253 < p.length
  · refine go (.tup [.list 0 [] .ti, I .i64 4]) (.tup [.list 0 [] .sh, I .i64 4]) ?_ (fun H' => by simp <;> rfl) (by unfold bytV; rw [if_neg c1, if_pos c2])
    exact ⟨_, by unfold s_triuneref03_Bytes fmE; simp -implicitDefEqProofs (disch := first | omega | (simp only [List.length_set, List.length_append, List.length_cons, List.length_nil, List.length_take, List.length_drop, List.length_map]; omega) | simp) [wrap_i64, wrap_u16_id, wrap_u8_id, tdiv_pos, tmod_pos, -getElem?_pos, -getElem?_neg, -List.length_eq_zero_iff, -List.getElem_cons_drop, c2]; rfl⟩
  · have h1 := buildL_u1 u
    obtain ⟨t2, H', ha, _⟩ := appG_all (e := 5) (ag := false) (sz := 1) (by_ := 1) (n0 := 1) (enc := I .u8) (xs := [u]) (ys := p) (t := .ti) (t' := .sh) (H := [.cells 74 [I .u8 u, LV 1 (I .u8) p .sh]]) (fl := 0) (by omega) (by simp) (.inl rfl) rfl (by simp; omega) (by simp; omega)
    rw [List.cons_append, List.nil_append] at ha
    have hP := ref01_Put_c n (u :: p) t2 hb (by simp; omega) (by simp; omega)
    refine go (.tup [LV 1 (I .u8) (putI (u :: p)) .sh, I .i64 0]) (.tup [LV 1 (I .u8) (putI (u :: p)) .sh, I .i64 0]) ?_ (fun H' => by simp) (by unfold bytV; rw [if_neg c1, if_neg c2])
    exact ⟨_, by unfold s_triuneref03_Bytes fmE; simp -implicitDefEqProofs (disch := first | omega | (simp only [List.length_set, List.length_append, List.length_cons, List.length_nil, List.length_take, List.length_drop, List.length_map]; omega) | simp) [wrap_i64, wrap_u16_id, wrap_u8_id, tdiv_pos, tmod_pos, -getElem?_pos, -getElem?_neg, -List.length_eq_zero_iff, -List.getElem_cons_drop, h1, ha, hP]; rfl⟩
def rdV (b : List Int) : Fm × Int := if b.length < 4 then (⟨0, []⟩, 3) else if 256 < b.length then (⟨0, []⟩, 4) else if sumN b ≠ 0 then (⟨0, []⟩, 6) else (⟨b.headD 0, (b.take (b.length - 2)).drop 1⟩, 0)
theorem rtu_Read_c (n : Nat) (b : List Int) (t : Tag) (hb : Bytes b) (hl : b.length ≤ 1000) (hn : 1100 ≤ n) : cP n 67 false [LV 1 (I .u8) b t] = some (.tup [fmE (rdV b).1 .sh, I .i64 (rdV b).2]) := by
  obtain ⟨n, rfl⟩ : ∃ m, n = m + 1 := ⟨n - 1, by omega⟩
  have go : ∀ r f e, (∃ H', s_rtu_Read n [] 0 (LV 1 (I .u8) b .sh) = some (r, H')) → rdV b = (f, e) → (∀ H', outD false H' r = some (.tup [fmE f .sh, I .i64 e])) → cP (n + 1) 67 false [LV 1 (I .u8) b t] = some (.tup [fmE (rdV b).1 .sh, I .i64 (rdV b).2]) := by
    intro r f e ⟨H', h⟩ h3 h2
    rw [h3]
    exact cP_of (args' := [LV 1 (I .u8) b .sh]) (by simp [argEl_eq]) ((s_rtu_Read_eq _ _ _ _).trans h) (h2 H')
  have hw := fun H => within_c n H b.length 4 256 (by omega)
  have ht3 := fun H => told_c n H b.length 3 .ti (by omega) (.inl rfl)
  have ht4 := fun H => told_c n H b.length 4 .ti (by omega) (.inr rfl)
  have h34 := buildL_34
  unfold wiV at hw
  by_cases c1 : b.length < 4
  · rw [if_pos (by omega)] at hw
    refine go (.tup [.agg [I .u8 0, .list 0 [] .ti], I .i64 3]) _ _ ?_ (by unfold rdV; rw [if_pos c1]) (fun H' => by simp [fmE] <;> rfl)
    exact ⟨_, by unfold s_rtu_Read; simp -implicitDefEqProofs (disch := first | omega | (simp only [List.length_set, List.length_append, List.length_cons, List.length_nil, List.length_take, List.length_drop, List.length_map]; omega) | simp) [wrap_i64, wrap_u16_id, wrap_u8_id, tdiv_pos, tmod_pos, -getElem?_pos, -getElem?_neg, -List.length_eq_zero_iff, -List.getElem_cons_drop, hw, nen_tr, h34, ht3]; rfl⟩
  by_cases c2 : 256 < b.length
  · rw [if_neg (by omega), if_pos (by omega)] at hw
    refine go (.tup [.agg [I .u8 0, .list 0 [] .ti], I .i64 4]) _ _ ?_ (by unfold rdV; rw [if_neg c1, if_pos c2]) (fun H' => by simp [fmE] <;> rfl)
    exact ⟨_, by unfold s_rtu_Read; simp -implicitDefEqProofs (disch := first | omega | (simp only [List.length_set, List.length_append, List.length_cons, List.length_nil, List.length_take, List.length_drop, List.length_map]; omega) | simp) [wrap_i64, wrap_u16_id, wrap_u8_id, tdiv_pos, tmod_pos, -getElem?_pos, -getElem?_neg, -List.length_eq_zero_iff, -List.getElem_cons_drop, hw, nen_tr, h34, ht4]; rfl⟩
  rw [if_neg (by omega), if_neg (by omega)] at hw
  by_cases c3 : sumN b = 0
  · have hC := crc_Cut_c n b .sh hb (by omega) (by omega) (by omega) c3
    have hL : (b.take (b.length - 2)).length = b.length - 2 := by simp
    have hg : ∀ h : 0 < (b.take (b.length - 2)).length, (b.take (b.length - 2))[0] = b.headD 0 := fun h => by
      cases b with
      | nil => simp at c1
      | cons x b => rw [List.getElem_take]; rfl
    refine go (.tup [.agg [I .u8 (b.headD 0), LV 1 (I .u8) ((b.take (b.length - 2)).drop 1) .sh], I .i64 0]) _ _ ?_ (by unfold rdV; rw [if_neg c1, if_neg c2, if_neg (by simpa using c3)]) (fun H' => by simp [fmE])
    generalize b.take (b.length - 2) = f at *
    exact ⟨_, by unfold s_rtu_Read; simp -implicitDefEqProofs (disch := first | omega | (simp only [List.length_set, List.length_append, List.length_cons, List.length_nil, List.length_take, List.length_drop, List.length_map]; omega) | simp) [wrap_i64, wrap_u16_id, wrap_u8_id, tdiv_pos, tmod_pos, -getElem?_pos, -getElem?_neg, -List.length_eq_zero_iff, -List.getElem_cons_drop, hw, nen_nil, hC, hL, hg]; rfl⟩
  · have hC := crc_Cut_no n b .sh hb (by omega) (by omega) (.inr c3)
    refine go (.tup [.agg [I .u8 0, .list 0 [] .ti], I .i64 6]) _ _ ?_ (by unfold rdV; rw [if_neg c1, if_neg c2, if_pos c3]) (fun H' => by simp [fmE] <;> rfl)
    exact ⟨_, by unfold s_rtu_Read; simp -implicitDefEqProofs (disch := first | omega | (simp only [List.length_set, List.length_append, List.length_cons, List.length_nil, List.length_take, List.length_drop, List.length_map]; omega) | simp) [wrap_i64, wrap_u16_id, wrap_u8_id, tdiv_pos, tmod_pos, -getElem?_pos, -getElem?_neg, -List.length_eq_zero_iff, -List.getElem_cons_drop, hw, nen_nil, hC]; rfl⟩
theorem ref03_Read_c (n : Nat) (b : List Int) (t : Tag) (hb : Bytes b) (hl : b.length ≤ 1000) (hn : 1100 ≤ n) : cP n 28 false [LV 1 (I .u8) b t] = some (.tup [fmE (rdV b).1 .sh, I .i64 (rdV b).2]) := by
  obtain ⟨n, rfl⟩ : ∃ m, n = m + 1 := ⟨n - 1, by omega⟩
  have go : ∀ r f e, (∃ H', s_triuneref03_Read n [] 0 (LV 1 (I .u8) b .sh) = some (r, H')) → rdV b = (f, e) → (∀ H', outD false H' r = some (.tup [fmE f .sh, I .i64 e])) → cP (n + 1) 28 false [LV 1 (I .u8) b t] = some (.tup [fmE (rdV b).1 .sh, I .i64 (rdV b).2]) := by
    intro r f e ⟨H', h⟩ h3 h2
    rw [h3]
    exact cP_of (args' := [LV 1 (I .u8) b .sh]) (by simp [argEl_eq]) ((s_triuneref03_Read_eq _ _ _ _).trans h) (h2 H')
  by_cases c1 : b.length < 4
  · refine go (.tup [.agg [I .u8 0, .list 0 [] .ti], I .i64 3]) _ _ ?_ (by unfold rdV; rw [if_pos c1]) (fun H' => by simp [fmE] <;> rfl)
    exact ⟨_, by unfold s_triuneref03_Read; simp -implicitDefEqProofs (disch := first | omega | (simp only [List.length_set, List.length_append, List.length_cons, List.length_nil, List.length_take, List.length_drop, List.length_map]; omega) | simp) [wrap_i64, wrap_u16_id, wrap_u8_id, tdiv_pos, tmod_pos, -getElem?_pos, -getElem?_neg, -List.length_eq_zero_iff, -List.getElem_cons_drop, c1]; rfl⟩
  by_cases c2 : 256 < b.length
  · refine go (.tup [.agg [I .u8 0, .list 0 [] .ti], I .i64 4]) _ _ ?_ (by unfold rdV; rw [if_neg c1, if_pos c2]) (fun H' => by simp [fmE] <;> rfl)
    exact ⟨_, by unfold s_triuneref03_Read; simp -implicitDefEqProofs (disch := first | omega | (simp only [List.length_set, List.length_append, List.length_cons, List.length_nil, List.length_take, List.length_drop, List.length_map]; omega) | simp) [wrap_i64, wrap_u16_id, wrap_u8_id, tdiv_pos, tmod_pos, -getElem?_pos, -getElem?_neg, -List.length_eq_zero_iff, -List.getElem_cons_drop, c1, c2]; rfl⟩
  by_cases c3 : sumN b = 0
  · have hC := ref01_Cut_c n b .sh hb (by omega) (by omega) (by omega) c3
    have hL : (b.take (b.length - 2)).length = b.length - 2 := by simp
    have hg : ∀ h : 0 < (b.take (b.length - 2)).length, (b.take (b.length - 2))[0] = b.headD 0 := fun h => by
      cases b with
      | nil => simp at c1
      | cons x b => rw [List.getElem_take]; rfl
    refine go (.tup [.agg [I .u8 (b.headD 0), LV 1 (I .u8) ((b.take (b.length - 2)).drop 1) .sh], I .i64 0]) _ _ ?_ (by unfold rdV; rw [if_neg c1, if_neg c2, if_neg (by simpa using c3)]) (fun H' => by simp [fmE])
    generalize b.take (b.length - 2) = f at *
    exact ⟨_, by unfold s_triuneref03_Read; simp -implicitDefEqProofs (disch := first | omega | (simp only [List.length_set, List.length_append, List.length_cons, List.length_nil, List.length_take, List.length_drop, List.length_map]; omega) | simp) [wrap_i64, wrap_u16_id, wrap_u8_id, tdiv_pos, tmod_pos, -getElem?_pos, -getElem?_neg, -List.length_eq_zero_iff, -List.getElem_cons_drop, c1, c2, hC, hL, hg]; rfl⟩
  · have hC := ref01_Cut_no n b .sh hb (by omega) (by omega) (.inr c3)
    refine go (.tup [.agg [I .u8 0, .list 0 [] .ti], I .i64 6]) _ _ ?_ (by unfold rdV; rw [if_neg c1, if_neg c2, if_pos c3]) (fun H' => by simp [fmE] <;> rfl)
    exact ⟨_, by unfold s_triuneref03_Read; simp -implicitDefEqProofs (disch := first | omega | (simp only [List.length_set, List.length_append, List.length_cons, List.length_nil, List.length_take, List.length_drop, List.length_map]; omega) | simp) [wrap_i64, wrap_u16_id, wrap_u8_id, tdiv_pos, tmod_pos, -getElem?_pos, -getElem?_neg, -List.length_eq_zero_iff, -List.getElem_cons_drop, c1, c2, hC]; rfl⟩
end Go.Proofs.YtcpgmbpndpcmdaaGreat
namespace Go.Proofs.YtcpgmbpndpcmdaaGreat
open Go
set_option linter.unusedSimpArgs false
set_option linter.unusedVariables false
theorem bytesOf {l : List Int} (h : ∀ a ∈ l, (Lit.int .u8 a).wf = true) : Bytes l := fun x hx => wf_u8 (h x hx)
theorem rdV_ok (b : List Int) (hb : Bytes b) : FmOk (rdV b).1 := by
  have z : FmOk ⟨0, []⟩ := ⟨by simp, fun x hx => by simp at hx, by simp⟩
  unfold rdV
  split
  · exact z
  split
  · exact z
  split
  · exact z
  · rename_i h1 h2 h3
    cases b with
    | nil => simp at h1
    | cons x b =>
      refine ⟨hb x (by simp), fun y hy => hb y (List.mem_of_mem_take (List.mem_of_mem_drop hy)), ?_⟩
      simp only [List.length_drop, List.length_take]
      omega
end Go.Proofs.YtcpgmbpndpcmdaaGreat
namespace Go.Proofs.YtcpgmbpndpcmdaaGreat
open Go
set_option maxRecDepth 100000
set_option linter.unusedVariables false
def s_triuneref07_long_I0 (x0 x3 x4 : DV) : List DV := [x0, .any, .any, x3, x4, .any, .any, .any, .any, .any, .any, .any, .any, .any, .any, .any, .any, .any, .any, .any, .any, .any, .any, .any]
def s_triuneref07_long_O0 (x3 : DV) : List DV := [.any, .any, .any, x3, .any, .any, .any, .any, .any, .any, .any, .any, .any, .any, .any, .any, .any, .any, .any, .any, .any, .any, .any, .any]
noncomputable abbrev s_triuneref07_long_b0 (n fl : Nat) : List DV → Heap → (Ex → KF) → R := execG ⟨Tryz.prog, callG Tryz.prog ENV n, ENV.md, fl, 24⟩ n (loopAt (bodyOf Tryz.f74) 0) []
noncomputable def s_triuneref07_long_B0 (n fl : Nat) (rec : DV → DV → DV → Heap → R) (k : Ex → KF) (x0 x3 x4 : DV) (H : Heap) : R :=
  bi (lenD x0) fun d0 =>
  bi (ltK .i64 x4 d0) fun d1 =>
  bi (wantF d1 true (some x3)) fun d2 =>
  bi (wantF d1 true (ltK .i64 d2 (I .i64 1000))) fun d3 =>
  bi (pickD d1 d3 (Bo false)) fun d4 =>
  condR d4 (
  bi (addK .i64 x3 (I .i64 2)) fun d5 =>
  bi (idxSl 1 x0 x4) fun d6 =>
  bi (loadG false 1 d6 H) fun d7 =>
  bi (lenStr d7) fun d8 =>
  bi (addK .i64 d5 d8) fun d9 =>
  bi (addK .i64 x4 (I .i64 1)) fun d10 =>
  rec x0 d9 d10 H) (
  k (.exit 0) (s_triuneref07_long_O0 x3) H)
noncomputable def s_triuneref07_long_L0 (n fl : Nat) (k : Ex → KF) : Nat → DV → DV → DV → Heap → R
  | 0, _, _, _, _ => none
  | m + 1, x0, x3, x4, H => s_triuneref07_long_B0 n fl (s_triuneref07_long_L0 n fl k m) k x0 x3 x4 H
theorem s_triuneref07_long_S0 (n fl m : Nat) (k : Ex → KF) (x0 x3 x4 : DV) (H : Heap) : loopG [0, 3, 4] [3] 24 (s_triuneref07_long_b0 n fl) (m + 1) (s_triuneref07_long_I0 x0 x3 x4) H k = s_triuneref07_long_B0 n fl (fun x0 x3 x4 H => loopG [0, 3, 4] [3] 24 (s_triuneref07_long_b0 n fl) m (s_triuneref07_long_I0 x0 x3 x4) H k) k x0 x3 x4 H := by kernel_rfl
theorem s_triuneref07_long_L0_eq (n fl : Nat) (k : Ex → KF) : ∀ (m : Nat) (x0 x3 x4 : DV) (H : Heap), loopG [0, 3, 4] [3] 24 (s_triuneref07_long_b0 n fl) m (s_triuneref07_long_I0 x0 x3 x4) H k = s_triuneref07_long_L0 n fl k m x0 x3 x4 H := by
  intro m
  induction m with
  | zero => intros; rfl
  | succ m ih =>
    intro x0 x3 x4 H
    rw [s_triuneref07_long_S0, show (fun x0 x3 x4 H => loopG [0, 3, 4] [3] 24 (s_triuneref07_long_b0 n fl) m (s_triuneref07_long_I0 x0 x3 x4) H k) = s_triuneref07_long_L0 n fl k m from by funext x0 x3 x4 H; exact ih _ _ _ _]
    rw [s_triuneref07_long_L0]
noncomputable def s_triuneref07_long (n : Nat) (H : Heap) (fl : Nat) (a0 : DV) : R :=
  loopG [0, 3, 4] [3] 24 (s_triuneref07_long_b0 n fl) n (s_triuneref07_long_I0 a0 (I .i64 7) (I .i64 0)) H fun x S0 h0 => match x with
  | .normal => none
  | .exit i0 => (
  if i0 = 0 then (
  some ((S0.getD 3 .any), h0)) else (
  none))
  | .ret => (
  some (.any, h0))
theorem s_triuneref07_long_eq (n : Nat) (H : Heap) (fl : Nat) (a0 : DV) : callG Tryz.prog ENV (n + 1) 74 [a0] H fl = s_triuneref07_long n H fl a0 := by kernel_rfl
end Go.Proofs.YtcpgmbpndpcmdaaGreat
namespace Go.Proofs.YtcpgmbpndpcmdaaGreat
open Go
set_option linter.unusedSimpArgs false
set_option linter.unusedVariables false
def longI : Int → List ByteArray → Int
  | n, [] => n
  | n, s :: r => if n < 1000 then longI (n + 2 + (s.size : Int)) r else n
theorem long_L (n fl : Nat) (K : Ex → KF) (l : List ByteArray) (t : Tag) (hs : ∀ s ∈ l, s.size ≤ 281474976710656) (hl : l.length ≤ 100000) : ∀ (m i : Nat) (acc : Int) (H : Heap), l.length < m + i → i ≤ l.length → 0 ≤ acc → acc ≤ 281474976712000 →
    s_triuneref07_long_L0 n fl K m (LV 1 Sg l t) (I .i64 acc) (I .i64 i) H = K (.exit 0) (s_triuneref07_long_O0 (I .i64 (longI acc (l.drop i)))) H := by
  intro m
  induction m with
  | zero => intro i acc H h; omega
  | succ m ih =>
    intro i acc H hm hi h0 h1
    unfold s_triuneref07_long_L0 s_triuneref07_long_B0
    by_cases h : i < l.length
    · have hz := hs _ (List.getElem_mem h)
      have hls : lenStr (Sg l[i]) = some (I .i64 (l[i].size : Int)) := rfl
      rw [List.drop_eq_getElem_cons h]
      have hi2 : ((i + 1 : Nat) : Int) = (i : Int) + 1 := by omega
      by_cases c1 : acc < 1000
      · have e : longI acc (l[i] :: l.drop (i + 1)) = longI (acc + 2 + (l[i].size : Int)) (l.drop (i + 1)) := by conv => lhs; unfold longI; rw [if_pos c1]
        rw [e]
        have ih' := ih (i + 1) (acc + 2 + (l[i].size : Int)) H (by omega) (by omega) (by omega) (by omega)
        rw [hi2] at ih'
        simp -implicitDefEqProofs (disch := first | omega | (simp only [List.length_set, List.length_append, List.length_cons, List.length_nil, List.length_take, List.length_drop, List.length_map]; omega) | simp) [wrap_i64, wrap_u16_id, wrap_u8_id, tdiv_pos, tmod_pos, -getElem?_pos, -getElem?_neg, -List.length_eq_zero_iff, -List.getElem_cons_drop, h, hls, c1, ih']
      · have e : longI acc (l[i] :: l.drop (i + 1)) = acc := by unfold longI; rw [if_neg c1]
        rw [e]
        simp -implicitDefEqProofs (disch := first | omega | (simp only [List.length_set, List.length_append, List.length_cons, List.length_nil, List.length_take, List.length_drop, List.length_map]; omega) | simp) [wrap_i64, wrap_u16_id, wrap_u8_id, tdiv_pos, tmod_pos, -getElem?_pos, -getElem?_neg, -List.length_eq_zero_iff, -List.getElem_cons_drop, h, hls, c1]
    · have : i = l.length := by omega
      subst this
      rw [List.drop_length]
      simp -implicitDefEqProofs (disch := first | omega | (simp only [List.length_set, List.length_append, List.length_cons, List.length_nil, List.length_take, List.length_drop, List.length_map]; omega) | simp) [wrap_i64, wrap_u16_id, wrap_u8_id, tdiv_pos, tmod_pos, -getElem?_pos, -getElem?_neg, -List.length_eq_zero_iff, -List.getElem_cons_drop, longI]
theorem long_c (n : Nat) (l : List ByteArray) (t : Tag) (hs : ∀ s ∈ l, s.size ≤ 281474976710656) (hl : l.length ≤ 100000) (hn : l.length + 4 ≤ n) : cP n 74 false [LV 1 Sg l t] = some (I .i64 (longI 7 l)) := by
  obtain ⟨n, rfl⟩ : ∃ m, n = m + 1 := ⟨n - 1, by omega⟩
  have q : ∀ K, loopG [0, 3, 4] [3] 24 (s_triuneref07_long_b0 n 0) n (s_triuneref07_long_I0 (LV 1 Sg l .sh) (I .i64 7) (I .i64 0)) [] K = _ := fun K => (s_triuneref07_long_L0_eq _ _ _ _ _ _ _ _).trans (long_L n 0 K l .sh hs hl n 0 7 [] (by omega) (by omega) (by omega) (by omega))
  rw [List.drop_zero] at q
  exact cP_of (r := I .i64 (longI 7 l)) (args' := [LV 1 Sg l .sh]) (by simp [argEl_eq]) ((s_triuneref07_long_eq _ _ _ _).trans (by unfold s_triuneref07_long; simp -implicitDefEqProofs (disch := first | omega | (simp only [List.length_set, List.length_append, List.length_cons, List.length_nil, List.length_take, List.length_drop, List.length_map]; omega) | simp) [wrap_i64, wrap_u16_id, wrap_u8_id, tdiv_pos, tmod_pos, -getElem?_pos, -getElem?_neg, -List.length_eq_zero_iff, -List.getElem_cons_drop, q, s_triuneref07_long_O0]; first | exact rfl | exact ⟨rfl, rfl⟩)) (by simp)
def anLarge (x : An) : Bool := decide (3000 < x.bits.length) || decide (300 < x.words.length) || decide (300 < x.texts.length) || decide (900 < longI 7 x.texts)
theorem longI_ge : ∀ (l : List ByteArray) (n : Int), n ≤ longI n l
  | [], n => by simp [longI]
  | s :: l, n => by
    unfold longI
    split
    · have := longI_ge l (n + 2 + (s.size : Int))
      omega
    · exact Int.le_refl _
theorem fitT_iff : ∀ (l : List ByteArray) (n : Int), n ≤ 253 → (fitT n l = true ↔ (∀ s ∈ l, s.size ≤ 245) ∧ longI n l ≤ 253)
  | [], n, h => by simp [fitT, longI, h]
  | s :: l, n, h => by
    have e : longI n (s :: l) = longI (n + 2 + (s.size : Int)) l := by conv => lhs; unfold longI; rw [if_pos (by omega)]
    have e2 : n + (2 + (s.size : Int)) = n + 2 + (s.size : Int) := by omega
    rw [e]
    unfold fitT
    rw [e2]
    have hg := longI_ge l (n + 2 + (s.size : Int))
    by_cases c1 : 245 < s.size
    · rw [if_pos (.inl c1)]
      constructor
      · intro h; cases h
      · rintro ⟨h1, _⟩
        have := h1 s (by simp)
        omega
    · by_cases c2 : 253 < n + 2 + (s.size : Int)
      · rw [if_pos (.inr c2)]
        constructor
        · intro h; cases h
        · rintro ⟨_, h2⟩
          omega
      · rw [if_neg (by omega), fitT_iff l _ (by omega)]
        constructor
        · rintro ⟨h1, h2⟩
          refine ⟨fun x hx => ?_, h2⟩
          rcases List.mem_cons.1 hx with rfl | hx
          · omega
          · exact h1 x hx
        · rintro ⟨h1, h2⟩
          exact ⟨fun x hx => h1 x (by simp [hx]), h2⟩
end Go.Proofs.YtcpgmbpndpcmdaaGreat
namespace Go.Proofs.YtcpgmbpndpcmdaaGreat
open Go
set_option maxRecDepth 100000
set_option linter.unusedVariables false
end Go.Proofs.YtcpgmbpndpcmdaaGreat
namespace Go.Proofs.YtcpgmbpndpcmdaaGreat
open Go
set_option linter.unusedSimpArgs false
set_option linter.unusedVariables false
set_option maxRecDepth 100000
theorem str_eq (a b : ByteArray) : (a.toList == b.toList) = decide (a = b) := by
  rw [Bool.eq_iff_iff]
  simp only [beq_iff_eq, decide_eq_true_eq]
  constructor
  · intro h
    rw [ByteArray.toList_eq, ByteArray.toList_eq] at h
    cases a; cases b
    simpa using h
  · rintro rfl; rfl
@[simp] theorem neS_Sg (a b : ByteArray) : neS (Sg a) (Sg b) = some (Bo (!decide (a = b))) := by
  show some (DV.flat (.bool (!(a.toList == b.toList)))) = _
  rw [str_eq]
end Go.Proofs.YtcpgmbpndpcmdaaGreat
namespace Go.Proofs.YtcpgmbpndpcmdaaGreat
open Go
set_option linter.unusedSimpArgs false
set_option linter.unusedVariables false
end Go.Proofs.YtcpgmbpndpcmdaaGreat
namespace Go.Proofs.YtcpgmbpndpcmdaaGreat
open Go
set_option linter.unusedSimpArgs false
set_option linter.unusedVariables false
structure AnTy (x : An) : Prop where
  w : Words x.words
  c : -9223372036854775808 ≤ x.exc ∧ x.exc < 9223372036854775808
  s : ∀ s ∈ x.texts, s.size ≤ 281474976710656
theorem long_size : ∀ (l : List ByteArray) (n : Int), 0 ≤ n → n ≤ 900 → longI n l ≤ 900 → ∀ s ∈ l, s.size ≤ 900
  | [], _, _, _, _ => by simp
  | s :: l, n, h0, h1, h => by
    unfold longI at h
    rw [if_pos (by omega)] at h
    have hg := longI_ge l (n + 2 + (s.size : Int))
    intro t ht
    rcases List.mem_cons.1 ht with rfl | ht
    · omega
    · exact long_size l _ (by omega) (by omega) h t ht
theorem large_open {x : An} (h : anLarge x = false) : x.bits.length ≤ 3000 ∧ x.words.length ≤ 300 ∧ x.texts.length ≤ 300 ∧ longI 7 x.texts ≤ 900 := by
  unfold anLarge at h
  simp only [Bool.or_eq_false_iff, decide_eq_false_iff_not] at h
  omega
theorem AnTy.ok {x : An} (h : AnTy x) (hl : anLarge x = false) : AnOk x := by
  obtain ⟨h1, h2, h3, h4⟩ := large_open hl
  exact ⟨h.w, fun s hs => Nat.le_trans (long_size x.texts 7 (by omega) (by omega) h4 s hs) (by decide), by omega⟩
theorem guess_words (a : Rq) (b : List Int) : Words (guessA a b).words := by
  unfold guessA
  split
  · intro x hx; cases hx
  split
  · intro x hx; cases hx
  split
  · exact wdI_words _
  split
  · intro x hx; cases hx
  · intro x hx; cases hx
theorem nm_len (addr : Int) : ∀ (l : List ByteArray) (n : Int) (i : Nat), n ≤ 253 → fitT n l = true → n + ((nmI addr i l).length : Int) ≤ 253
  | [], n, i, h, _ => by simpa [nmI] using h
  | s :: l, n, i, h, hf => by
    unfold fitT at hf
    split at hf
    · cases hf
    · rename_i hc
      have ih := nm_len addr l _ (i + 1) (by omega) hf
      have hl := strI_len s
      simp only [nmI, cntI, List.length_cons, List.length_append]
      omega
theorem ansText_len (a : Rq) (x : An) (h : ansV a x = true) : 2 ≤ (ansTextV a x).length ∧ (ansTextV a x).length ≤ 253 := by
  obtain ⟨h0, h1, h2, h3, h4, h5⟩ := ansV_open h
  obtain ⟨l1, l2, l3, l4, _⟩ := formed_le a h0.1
  by_cases hx : 0 < x.exc
  · unfold ansTextV
    rw [if_pos hx]
    simp
  · have hz : x.exc = 0 := by omega
    have hq := fit_pos h0.1.2.1 (cntV_le _).1
    unfold ansTextV
    rw [if_neg hx]
    rcases rd_cases a.code with ⟨c1, c2, c3⟩ | ⟨c1, c2, c3⟩ | ⟨c1, c2, c3⟩ | ⟨c1, c2, c3⟩ <;> simp only [c1, c2, c3, hz, and_true, if_true, Bool.false_eq_true, if_false, false_and, true_and] at h3 h4 h5 ⊢
    · have := pkI_length x.bits
      simp only [cntI, List.length_cons]
      omega
    · have := wbI_length x.words
      have : cntV a.code = 125 := by
        unfold rdWords at c2
        have := of_decide_eq_true c2
        unfold cntV
        rw [if_neg (by omega), if_pos this]
      simp only [cntI, List.length_cons]
      omega
    · obtain ⟨k1, k2, k3, k4⟩ := fitA_open h5
      have := nm_len a.addr x.texts 7 0 (by omega) k4
      simp only [namedV, List.length_cons, List.length_append, List.length_nil]
      omega
    · have h5 := text_five a h0.1 (by simp [c1]) (by simp [c2]) (by simp [c3])
      have hm := text_most a h0.1
      split
      · rename_i e
        have := h5.2 e
        omega
      · rw [List.length_take]
        omega
end Go.Proofs.YtcpgmbpndpcmdaaGreat
namespace Go.Proofs.YtcpgmbpndpcmdaaGreat
open Go
set_option linter.unusedSimpArgs false
set_option linter.unusedVariables false
set_option maxRecDepth 100000
structure Mst where
  u : Int
  g : Int
  wt : Int
  tr : Int
  st : Int
  q : Int
  f : Int
  n : Int
  a : Rq
  came : List Int
def Mst.C (m : Mst) (t1 t2 t3 : Tag) : List DV := [I .u8 m.u, I .i64 m.g, I .i64 m.wt, I .i64 m.tr, I .i64 m.st, I .i64 m.q, I .i64 m.f, I .i64 m.n, I .i64 m.a.code, I .i64 m.a.addr, I .i64 m.a.cnt, I .i64 m.a.to_, LV 1 (I .u16) m.a.words t1, LV 1 Bo m.a.bits t2, I .u16 m.a.and_, I .u16 m.a.or_, LV 1 (I .u8) m.came t3]
def Mst.B (m : Mst) (t1 t2 t3 : Tag) : DBlk := .cells 69 (m.C t1 t2 t3)
def outE (k : Int) (x : An) (t1 t2 t3 : Tag) : DV := .agg [I .i64 k, I .i64 x.exc, LV 1 Bo x.bits t1, LV 1 (I .u16) x.words t2, LV 1 Sg x.texts t3]
def cfgE (u g wt tr : Int) : DV := .agg [I .u8 u, I .i64 g, I .i64 wt, I .i64 tr]
def CfgP (u g wt tr : Int) : Prop := (1 ≤ u ∧ u ≤ 247) ∧ (1 ≤ g ∧ g ≤ 20) ∧ (1 ≤ wt ∧ wt ≤ 1000) ∧ (1 ≤ tr ∧ tr ≤ 5)
instance (u g wt tr : Int) : Decidable (CfgP u g wt tr) := by unfold CfgP; infer_instance
theorem mWithin_c (n : Nat) (hn : 1 ≤ n) (x y : Int) : cP2 n 21 false [I .i64 x, I .i64 y] = some (Bo (decide (1 ≤ x ∧ x ≤ y))) := by
  obtain ⟨n, rfl⟩ : ∃ m, n = m + 1 := ⟨n - 1, by omega⟩
  refine cP2_of (H' := []) (args' := [I .i64 x, I .i64 y]) (r := Bo (decide (1 ≤ x ∧ x ≤ y))) (by simp [argEl_eq]; first | done | rfl) ((s_master_within_eq _ _ _ _ _).trans ?_) (by simp)
  unfold s_master_within
  by_cases c1 : 1 ≤ x
  · by_cases c2 : x ≤ y
    · simp -implicitDefEqProofs (disch := first | omega | (simp only [List.length_set, List.length_append, List.length_cons, List.length_nil, List.length_take, List.length_drop, List.length_map]; omega) | simp) [wrap_i64, wrap_u16_id, wrap_u8_id, tdiv_pos, tmod_pos, -getElem?_pos, -getElem?_neg, -List.length_eq_zero_iff, -List.getElem_cons_drop, c1, c2]
    · simp -implicitDefEqProofs (disch := first | omega | (simp only [List.length_set, List.length_append, List.length_cons, List.length_nil, List.length_take, List.length_drop, List.length_map]; omega) | simp) [wrap_i64, wrap_u16_id, wrap_u8_id, tdiv_pos, tmod_pos, -getElem?_pos, -getElem?_neg, -List.length_eq_zero_iff, -List.getElem_cons_drop, c1, c2]
  · simp -implicitDefEqProofs (disch := first | omega | (simp only [List.length_set, List.length_append, List.length_cons, List.length_nil, List.length_take, List.length_drop, List.length_map]; omega) | simp) [wrap_i64, wrap_u16_id, wrap_u8_id, tdiv_pos, tmod_pos, -getElem?_pos, -getElem?_neg, -List.length_eq_zero_iff, -List.getElem_cons_drop, c1]
theorem mRight_c (n : Nat) (hn : 2 ≤ n) (u g wt tr : Int) : cP2 n 8 false [cfgE u g wt tr] = some (Bo (decide (CfgP u g wt tr))) := by
  obtain ⟨n, rfl⟩ : ∃ m, n = m + 1 := ⟨n - 1, by omega⟩
  have w1 := mWithin_c n (by omega) g 20
  have w2 := mWithin_c n (by omega) wt 1000
  have w3 := mWithin_c n (by omega) tr 5
  have go : ∀ b, decide (CfgP u g wt tr) = b → (∃ H', s_master_Right n [] 0 (cfgE u g wt tr) = some (Bo b, H')) → cP2 (n + 1) 8 false [cfgE u g wt tr] = some (Bo (decide (CfgP u g wt tr))) := by
    intro b h1 ⟨H', h⟩
    rw [h1]
    exact cP2_of (args' := [cfgE u g wt tr]) (r := Bo b) (by simp [cfgE, argEl_eq]) ((s_master_Right_eq _ _ _ _).trans h) (by simp)
  unfold CfgP at go ⊢
  unfold s_master_Right cfgE at *
  by_cases c1 : 1 ≤ u
  · by_cases c2 : u ≤ 247
    · by_cases c3 : 1 ≤ g ∧ g ≤ 20
      · rw [decide_eq_true c3] at w1
        by_cases c4 : 1 ≤ wt ∧ wt ≤ 1000
        · rw [decide_eq_true c4] at w2
          by_cases c5 : 1 ≤ tr ∧ tr ≤ 5
          · rw [decide_eq_true c5] at w3
            exact go true (decide_eq_true ⟨⟨c1, c2⟩, c3, c4, c5⟩) ⟨_, by simp -implicitDefEqProofs (disch := first | omega | (simp only [List.length_set, List.length_append, List.length_cons, List.length_nil, List.length_take, List.length_drop, List.length_map]; omega) | simp) [wrap_i64, wrap_u16_id, wrap_u8_id, tdiv_pos, tmod_pos, -getElem?_pos, -getElem?_neg, -List.length_eq_zero_iff, -List.getElem_cons_drop, c1, c2, w1, w2, w3]; rfl⟩
          · rw [decide_eq_false c5] at w3
            exact go false (decide_eq_false fun h => c5 h.2.2.2) ⟨_, by simp -implicitDefEqProofs (disch := first | omega | (simp only [List.length_set, List.length_append, List.length_cons, List.length_nil, List.length_take, List.length_drop, List.length_map]; omega) | simp) [wrap_i64, wrap_u16_id, wrap_u8_id, tdiv_pos, tmod_pos, -getElem?_pos, -getElem?_neg, -List.length_eq_zero_iff, -List.getElem_cons_drop, c1, c2, w1, w2, w3]; rfl⟩
        · rw [decide_eq_false c4] at w2
          exact go false (decide_eq_false fun h => c4 h.2.2.1) ⟨_, by simp -implicitDefEqProofs (disch := first | omega | (simp only [List.length_set, List.length_append, List.length_cons, List.length_nil, List.length_take, List.length_drop, List.length_map]; omega) | simp) [wrap_i64, wrap_u16_id, wrap_u8_id, tdiv_pos, tmod_pos, -getElem?_pos, -getElem?_neg, -List.length_eq_zero_iff, -List.getElem_cons_drop, c1, c2, w1, w2]; rfl⟩
      · rw [decide_eq_false c3] at w1
        exact go false (decide_eq_false fun h => c3 h.2.1) ⟨_, by simp -implicitDefEqProofs (disch := first | omega | (simp only [List.length_set, List.length_append, List.length_cons, List.length_nil, List.length_take, List.length_drop, List.length_map]; omega) | simp) [wrap_i64, wrap_u16_id, wrap_u8_id, tdiv_pos, tmod_pos, -getElem?_pos, -getElem?_neg, -List.length_eq_zero_iff, -List.getElem_cons_drop, c1, c2, w1]; rfl⟩
    · exact go false (decide_eq_false fun h => c2 h.1.2) ⟨_, by simp -implicitDefEqProofs (disch := first | omega | (simp only [List.length_set, List.length_append, List.length_cons, List.length_nil, List.length_take, List.length_drop, List.length_map]; omega) | simp) [wrap_i64, wrap_u16_id, wrap_u8_id, tdiv_pos, tmod_pos, -getElem?_pos, -getElem?_neg, -List.length_eq_zero_iff, -List.getElem_cons_drop, c1, c2]; rfl⟩
  · exact go false (decide_eq_false fun h => c1 h.1.1) ⟨_, by simp -implicitDefEqProofs (disch := first | omega | (simp only [List.length_set, List.length_append, List.length_cons, List.length_nil, List.length_take, List.length_drop, List.length_map]; omega) | simp) [wrap_i64, wrap_u16_id, wrap_u8_id, tdiv_pos, tmod_pos, -getElem?_pos, -getElem?_neg, -List.length_eq_zero_iff, -List.getElem_cons_drop, c1]; rfl⟩
def cfgB (u g wt tr : Int) : DBlk := .cells 23 [I .u8 u, I .i64 g, I .i64 wt, I .i64 tr]
def mst0 (u g wt tr : Int) : Mst := ⟨u, g, wt, tr, 0, g, 0, 0, ⟨0, 0, 0, 0, [], [], 0, 0⟩, []⟩
theorem mNew_yes (n : Nat) (hn : 3 ≤ n) (u g wt tr : Int) (H : Heap) (fl : Nat) (hfl : fl ≤ H.length) (h : CfgP u g wt tr) :
    cK2 n 6 [cfgE u g wt tr] H fl = some (.tup [.ptr (H.length + 1) 0, I .i64 0], H ++ [cfgB u g wt tr, (mst0 u g wt tr).B .ti .ti .ti]) := by
  obtain ⟨n, rfl⟩ : ∃ m, n = m + 1 := ⟨n - 1, by omega⟩
  have e1 := mRight_c n (by omega) u g wt tr
  rw [decide_eq_true h] at e1
  unfold cK2
  refine (s_master_New_eq _ _ _ _).trans ?_
  unfold s_master_New cfgB mst0 Mst.B Mst.C
  unfold cfgE at *
  simp -implicitDefEqProofs (disch := first | omega | (simp only [List.length_set, List.length_append, List.length_cons, List.length_nil, List.length_take, List.length_drop, List.length_map]; omega) | simp) [wrap_i64, wrap_u16_id, wrap_u8_id, tdiv_pos, tmod_pos, -getElem?_pos, -getElem?_neg, -List.length_eq_zero_iff, -List.getElem_cons_drop, e1]
  all_goals (repeat' (first | rfl | apply And.intro))
theorem mNew_no (n : Nat) (hn : 3 ≤ n) (u g wt tr : Int) (H : Heap) (fl : Nat) (hfl : fl ≤ H.length) (h : ¬ CfgP u g wt tr) :
    cK2 n 6 [cfgE u g wt tr] H fl = some (.tup [.flat (.pointer none), I .i64 1], H ++ [cfgB u g wt tr]) := by
  obtain ⟨n, rfl⟩ : ∃ m, n = m + 1 := ⟨n - 1, by omega⟩
  have e1 := mRight_c n (by omega) u g wt tr
  rw [decide_eq_false h] at e1
  unfold cK2
  refine (s_master_New_eq _ _ _ _).trans ?_
  unfold s_master_New cfgB
  unfold cfgE at *
  simp -implicitDefEqProofs (disch := first | omega | (simp only [List.length_set, List.length_append, List.length_cons, List.length_nil, List.length_take, List.length_drop, List.length_map]; omega) | simp) [wrap_i64, wrap_u16_id, wrap_u8_id, tdiv_pos, tmod_pos, -getElem?_pos, -getElem?_neg, -List.length_eq_zero_iff, -List.getElem_cons_drop, e1]
theorem mBusy_c (n k : Nat) (hn : 1 ≤ n) (H : Heap) (m : Mst) (t1 t2 t3 : Tag) (hk : H[k]? = some (m.B t1 t2 t3)) : cO2 n 18 [.ptr k 0] H = some (Bo (decide (m.st ≠ 0))) := by
  obtain ⟨n, rfl⟩ : ∃ m, n = m + 1 := ⟨n - 1, by omega⟩
  have hkl := hp_lt hk
  unfold Mst.B Mst.C at hk
  refine cO2_of (H' := H) (r := Bo (decide (m.st ≠ 0))) ((s___master_Master__Busy_eq _ _ _ _).trans ?_) (by simp)
  unfold s___master_Master__Busy
  simp -implicitDefEqProofs (disch := first | omega | (simp only [List.length_set, List.length_append, List.length_cons, List.length_nil, List.length_take, List.length_drop, List.length_map]; omega) | simp) [wrap_i64, wrap_u16_id, wrap_u8_id, tdiv_pos, tmod_pos, -getElem?_pos, -getElem?_neg, -List.length_eq_zero_iff, -List.getElem_cons_drop, hk]
structure MTag (t1 t2 t3 : Tag) (len : Nat) (H : Heap) : Prop where
  a : okT t1
  b : okT t2
  c : TgOk t3 5 1 0 len H
theorem MTag.sc {t1 t2 t3 : Tag} {len : Nat} {H : Heap} (h : MTag t1 t2 t3 len H) (sz : Nat) {α : Type} (enc : α → DV) (l : List α) : inSc H.length (LV sz enc l t3) = true := by
  rcases h.c with rfl | ⟨k, rfl, hk, _⟩
  · simp
  · have := hp_lt hk
    cases l <;> simp [LV, mkl, inSc, this]
def Mst.turn (m : Mst) (st : Int) : Mst := { m with st := st, f := 0, came := [] }
theorem Mst.old {m : Mst} {t1 t2 t3 : Tag} {H X : Heap} (h1 : okT t1) (h2 : okT t2) (h3 : ∀ l : List Int, oldLeaf H.length X (LV 1 (I .u8) l t3) = some (LV 1 (I .u8) l t3)) : oldBlk H.length X (m.B t1 t2 t3) = some (m.B t1 t2 t3) := by
  unfold Mst.B Mst.C
  simp [oldLeaf_okT h1, oldLeaf_okT h2, h3]
theorem Mst.wf {m : Mst} {t1 t2 t3 : Tag} {n : Nat} (h1 : okT t1) (h2 : okT t2) (h3 : ∀ l : List Int, inSc n (LV 1 (I .u8) l t3) = true) : WfB n (m.B t1 t2 t3) := by
  unfold Mst.B Mst.C
  intro d hd
  simp only [List.mem_cons, List.not_mem_nil, or_false] at hd
  rcases hd with rfl | rfl | rfl | rfl | rfl | rfl | rfl | rfl | rfl | rfl | rfl | rfl | rfl | rfl | rfl | rfl | rfl <;> first | rfl | simp [inSc_okT h1, inSc_okT h2, h3]
theorem mTurn_c (n k fl : Nat) (hn : 1 ≤ n) (H : Heap) (m : Mst) (t1 t2 t3 : Tag) (st : Int) (hk : H[k]? = some (m.B t1 t2 t3)) (hw : WfH H) (hfl : fl ≤ k) (h1 : okT t1) (h2 : okT t2) :
    cW2 n 35 [.ptr k 0, I .i64 st] H fl = some (.tup [], H.set k ((m.turn st).B t1 t2 .ti)) := by
  obtain ⟨n, rfl⟩ : ∃ m, n = m + 1 := ⟨n - 1, by omega⟩
  have hkl := hp_lt hk
  refine cW2_of (r := .tup []) (H' := H.set k ((m.turn st).B t1 t2 .ti)) ((s___master_Master__turn_eq _ _ _ _ _).trans ?_) (by simp) (cutH_set hw (k := k) hkl (by simp [hkl]) (fun j hj hjk => by simp [hjk]) (Mst.old h1 h2 fun l => by simp))
  unfold Mst.B Mst.C Mst.turn at *
  unfold s___master_Master__turn
  simp -implicitDefEqProofs (disch := first | omega | (simp only [List.length_set, List.length_append, List.length_cons, List.length_nil, List.length_take, List.length_drop, List.length_map]; omega) | simp) [wrap_i64, wrap_u16_id, wrap_u8_id, tdiv_pos, tmod_pos, -getElem?_pos, -getElem?_neg, -List.length_eq_zero_iff, -List.getElem_cons_drop, hk, hkl]
  all_goals (repeat' (first | rfl | apply And.intro))
theorem mRest_c (n k : Nat) (hn : 1 ≤ n) (H : Heap) : cO2 n 22 [.ptr k 0] H = some (.tup [LV 1 (I .u8) [] .ti, outE 0 anZ .ti .ti .ti]) := by
  obtain ⟨n, rfl⟩ : ∃ m, n = m + 1 := ⟨n - 1, by omega⟩
  refine cO2_of (H' := H ++ [.cells 48 [I .i64 0, I .i64 0, .list 0 [] .ti, .list 0 [] .ti, .list 0 [] .ti]]) (r := .tup [LV 1 (I .u8) [] .ti, outE 0 anZ .ti .ti .ti]) ((s___master_Master__rest_eq _ _ _ _).trans ?_) (by simp [outE])
  unfold s___master_Master__rest outE anZ
  simp -implicitDefEqProofs (disch := first | omega | (simp only [List.length_set, List.length_append, List.length_cons, List.length_nil, List.length_take, List.length_drop, List.length_map]; omega) | simp) [wrap_i64, wrap_u16_id, wrap_u8_id, tdiv_pos, tmod_pos, -getElem?_pos, -getElem?_neg, -List.length_eq_zero_iff, -List.getElem_cons_drop]
  all_goals (repeat' (first | rfl | apply And.intro))
end Go.Proofs.YtcpgmbpndpcmdaaGreat
namespace Go.Proofs.YtcpgmbpndpcmdaaGreat
open Go
set_option linter.unusedSimpArgs false
set_option linter.unusedVariables false
set_option maxRecDepth 100000
theorem prim_call0 {f : FuncId} {g : Prim} (hp : ENV.prim f = some g) (n : Nat) (args : List DV) (H : Heap) (fl : Nat) : callG Tryz.prog ENV (n + 1) f args H fl = g args H := by
  rw [callG_eq]
  unfold bodyG
  rw [hp]
theorem clone16_c (n : Nat) (hn : 1 ≤ n) (l : List Int) (t : Tag) (h : Words l) (hl : l.length ≤ 100000) : cP2 n 33 false [LV 1 (I .u16) l t] = some (LV 1 (I .u16) l .sh) := by
  obtain ⟨n, rfl⟩ : ∃ m, n = m + 1 := ⟨n - 1, by omega⟩
  have hp : ENV.prim 33 = some (primLL dW eW id) := by kernel_rfl
  refine cP_up (cP_of (args' := [LV 1 (I .u16) l .sh]) (r := mkl 1 ((id (toW l)).map eW) .sh) (H' := []) (by simp [argEl_eq]) ?_ ?_)
  · rw [prim_call0 hp]
    exact primLL_LV .sh [] (mapO_dW l h) (by unfold toW; simpa using hl)
  · show outD false [] (mkl 1 ((toW l).map eW) .sh) = _
    rw [mkl_eW, ofW_toW l h]
    simp
theorem cloneB_c (n : Nat) (hn : 1 ≤ n) (l : List Bool) (t : Tag) (hl : l.length ≤ 100000) : cP2 n 34 false [LV 1 Bo l t] = some (LV 1 Bo l .sh) := by
  obtain ⟨n, rfl⟩ : ∃ m, n = m + 1 := ⟨n - 1, by omega⟩
  have hp : ENV.prim 34 = some (primLL dT eT id) := by kernel_rfl
  refine cP_up (cP_of (args' := [LV 1 Bo l .sh]) (r := mkl 1 ((id l).map eT) .sh) (H' := []) (by simp [argEl_eq]) ?_ ?_)
  · rw [prim_call0 hp]
    exact primLL_LV .sh [] (mapO_dT l) hl
  · show outD false [] (mkl 1 (l.map eT) .sh) = _
    rw [mkl_eT]
    simp
def outZ : DBlk := .cells 48 [I .i64 0, I .i64 0, .list 0 [] .ti, .list 0 [] .ti, .list 0 [] .ti]
theorem WfH.out {H : Heap} (h : WfH H) : WfH (H ++ [outZ]) := h.app fun b hb => by
  simp only [List.mem_singleton] at hb
  subst hb
  intro d hd
  simp only [List.mem_cons, List.not_mem_nil, or_false] at hd
  rcases hd with rfl | rfl | rfl | rfl | rfl <;> rfl
theorem hp_set_same {H : Heap} {k : Nat} {b : DBlk} (h : H[k]? = some b) : H.set k b = H := by
  have hl := hp_lt h
  apply List.ext_getElem?
  intro j
  by_cases hj : j = k
  · subst hj; rw [hp_set_get _ _ _ hl, h]
  · rw [hp_set_ne _ _ _ _ hj]
def failedV (m : Mst) (kind : Int) : Int × Mst := if m.n < m.tr then (0, m.turn 1) else (kind, m.turn 0)
theorem mFailed_c (n k fl : Nat) (hn : 2 ≤ n) (H : Heap) (m : Mst) (t1 t2 t3 : Tag) (kind : Int) (hk : H[k]? = some (m.B t1 t2 t3)) (hw : WfH H) (hfl : fl ≤ k) (h1 : okT t1) (h2 : okT t2) :
    cW2 n 49 [.ptr k 0, I .i64 kind] H fl = some (outE (failedV m kind).1 anZ .ti .ti .ti, H.set k ((failedV m kind).2.B t1 t2 .ti)) := by
  obtain ⟨n, rfl⟩ : ∃ m, n = m + 1 := ⟨n - 1, by omega⟩
  have hkl := hp_lt hk
  have hT := fun st => mTurn_c n k fl (by omega) (H ++ [outZ]) m t1 t2 t3 st (by rw [hp_get_left _ _ _ hkl]; exact hk) hw.out hfl h1 h2
  simp only [hp_set_left _ _ _ _ hkl] at hT
  have key : ∀ (r : Int × Mst), failedV m kind = r → (∃ st, r.2 = m.turn st) → (∃ o, s___master_Master__failed n H fl (.ptr k 0) (I .i64 kind) = some (outE r.1 anZ .ti .ti .ti, H.set k (r.2.B t1 t2 .ti) ++ [o])) →
      cW2 (n + 1) 49 [.ptr k 0, I .i64 kind] H fl = some (outE (failedV m kind).1 anZ .ti .ti .ti, H.set k ((failedV m kind).2.B t1 t2 .ti)) := by
    intro r e1 e2 ⟨o, h⟩
    rw [e1]
    exact cW2_of ((s___master_Master__failed_eq _ _ _ _ _).trans h) (by simp [outE]) (cutH_set hw (k := k) hkl (by simp [hkl]) (fun j hj hjk => by rw [hp_get_left _ _ _ (by simpa using hj), hp_set_ne _ _ _ _ hjk]) (Mst.old h1 h2 fun l => by simp))
  unfold s___master_Master__failed at key
  unfold failedV at key ⊢
  unfold Mst.B Mst.C at hk
  unfold outZ at hT
  by_cases c : m.n < m.tr
  · have hT := hT 1
    exact key _ (if_pos c) ⟨1, rfl⟩ ⟨_, by simp -implicitDefEqProofs (disch := first | omega | (simp only [List.length_set, List.length_append, List.length_cons, List.length_nil, List.length_take, List.length_drop, List.length_map]; omega) | simp) [wrap_i64, wrap_u16_id, wrap_u8_id, tdiv_pos, tmod_pos, -getElem?_pos, -getElem?_neg, -List.length_eq_zero_iff, -List.getElem_cons_drop, hk, hkl, c, hT, outE, anZ]; all_goals (repeat' (first | rfl | apply And.intro))⟩
  · have hT := hT 0
    exact key _ (if_neg c) ⟨0, rfl⟩ ⟨_, by simp -implicitDefEqProofs (disch := first | omega | (simp only [List.length_set, List.length_append, List.length_cons, List.length_nil, List.length_take, List.length_drop, List.length_map]; omega) | simp) [wrap_i64, wrap_u16_id, wrap_u8_id, tdiv_pos, tmod_pos, -getElem?_pos, -getElem?_neg, -List.length_eq_zero_iff, -List.getElem_cons_drop, hk, hkl, c, hT, outE, anZ]; all_goals (repeat' (first | rfl | apply And.intro))⟩
def frameV (m : Mst) : List Int := putI (m.u :: textV m.a)
def sendV (m : Mst) : List Int × Mst := if m.q < m.g ∧ m.f < m.wt then ([], m) else (frameV m, { m.turn 2 with q := 0, n := m.n + 1 })
def KeepT (t3 t3' : Tag) (m r : Mst) : Prop := t3' = .ti ∧ r.came = [] ∨ t3' = t3 ∧ r.came = m.came
theorem text_few (a : Rq) (h : FormedP a) (ho : RqOk a) : 1 ≤ (textV a).length ∧ (textV a).length ≤ 253 := by
  refine ⟨?_, text_most a h⟩
  have := (text_back a h ho).2.2.2
  cases hq : textV a with
  | nil => exact absurd hq this
  | cons x l => simp
theorem mSend_c (n k fl : Nat) (hn : 1300 ≤ n) (H : Heap) (m : Mst) (t1 t2 t3 : Tag) (hk : H[k]? = some (m.B t1 t2 t3)) (hw : WfH H) (hfl : fl ≤ k) (ht : MTag t1 t2 t3 m.came.length H)
    (ha : RightP m.a) (oa : RqOk m.a) (hu : 0 ≤ m.u ∧ m.u < 256) (hnn : 0 ≤ m.n ∧ m.n < 1000000) :
    ∃ tb t3', KeepT t3 t3' m (sendV m).2 ∧ okT tb ∧ cW2 n 23 [.ptr k 0] H fl = some (.tup [LV 1 (I .u8) (sendV m).1 tb, outE 0 anZ .ti .ti .ti], H.set k ((sendV m).2.B t1 t2 t3')) := by
  obtain ⟨n, rfl⟩ : ∃ m, n = m + 1 := ⟨n - 1, by omega⟩
  have hkl := hp_lt hk
  have h1 := ht.a
  have h2 := ht.b
  have hold3 : ∀ (X : Heap) (l : List Int), oldLeaf H.length X (LV 1 (I .u8) l t3) = some (LV 1 (I .u8) l t3) := by
    intro X l
    have h3 := ht.sc 1 (I .u8) l
    unfold oldLeaf
    rw [LV_leaf, h3]
    rfl
  by_cases c : m.q < m.g ∧ m.f < m.wt
  · refine ⟨.ti, t3, .inr ⟨rfl, by unfold sendV; rw [if_pos c]⟩, .inr rfl, ?_⟩
    unfold sendV
    rw [if_pos c]
    have hR := mRest_c n k (by omega) (H ++ [outZ])
    refine cW2_of (r := .tup [LV 1 (I .u8) [] .ti, outE 0 anZ .ti .ti .ti]) (H' := H ++ [outZ]) ((s___master_Master__send_eq _ _ _ _).trans ?_) (by simp [outE]) (cutH_set hw (k := k) (b := m.B t1 t2 t3) hkl (by rw [hp_get_left _ _ _ hkl]; exact hk) (fun j hj hjk => by rw [hp_get_left _ _ _ hj]) (Mst.old h1 h2 (hold3 _)))
    obtain ⟨c1, c2⟩ := c
    unfold Mst.B Mst.C at hk
    unfold s___master_Master__send
    unfold outE anZ outZ at *
    simp -implicitDefEqProofs (disch := first | omega | (simp only [List.length_set, List.length_append, List.length_cons, List.length_nil, List.length_take, List.length_drop, List.length_map]; omega) | simp) [wrap_i64, wrap_u16_id, wrap_u8_id, tdiv_pos, tmod_pos, -getElem?_pos, -getElem?_neg, -List.length_eq_zero_iff, -List.getElem_cons_drop, hk, hkl, c1, c2, hR]
    all_goals (repeat' (first | rfl | apply And.intro))
  · obtain ⟨l1, l2⟩ := text_few m.a ha.1 oa
    have hT := mTurn_c n k fl (by omega) (H ++ [outZ]) m t1 t2 t3 2 (by rw [hp_get_left _ _ _ hkl]; exact hk) hw.out hfl h1 h2
    simp only [hp_set_left _ _ _ _ hkl] at hT
    have hA := cP_up (Bytes_c n (by omega) m.a oa t1 t2)
    rw [if_pos ha] at hA
    have hB := cP_up (rtu_Bytes_c n ⟨m.u, textV m.a⟩ .sh ⟨hu, text_bytes m.a, by show (textV m.a).length ≤ 1000; omega⟩ (by omega))
    unfold bytV at hB
    rw [if_neg (by show ¬ (textV m.a).length < 1; omega), if_neg (by show ¬ 253 < (textV m.a).length; omega)] at hB
    refine ⟨.sh, .ti, .inl ⟨rfl, by unfold sendV; rw [if_neg c]; rfl⟩, .inl rfl, ?_⟩
    unfold sendV
    rw [if_neg c]
    have key : (∃ o, s___master_Master__send n H fl (.ptr k 0) = some (.tup [LV 1 (I .u8) (frameV m) .sh, outE 0 anZ .ti .ti .ti], H.set k (Mst.B { m.turn 2 with q := 0, n := m.n + 1 } t1 t2 .ti) ++ [o])) →
        cW2 (n + 1) 23 [.ptr k 0] H fl = some (.tup [LV 1 (I .u8) (frameV m) .sh, outE 0 anZ .ti .ti .ti], H.set k (Mst.B { m.turn 2 with q := 0, n := m.n + 1 } t1 t2 .ti)) := by
      intro ⟨o, h⟩
      exact cW2_of ((s___master_Master__send_eq _ _ _ _).trans h) (by simp [outE]) (cutH_set hw (k := k) hkl (by simp [hkl]) (fun j hj hjk => by rw [hp_get_left _ _ _ (by simpa using hj), hp_set_ne _ _ _ _ hjk]) (Mst.old h1 h2 fun l => by simp))
    obtain ⟨n0, n1⟩ := hnn
    unfold s___master_Master__send frameV at key
    unfold frameV
    unfold Mst.B Mst.C Mst.turn at *
    unfold outE anZ outZ rqE fmE at *
    by_cases c1 : m.q < m.g
    · have c2 : ¬ m.f < m.wt := fun h => c ⟨c1, h⟩
      exact key ⟨_, by simp -implicitDefEqProofs (disch := first | omega | (simp only [List.length_set, List.length_append, List.length_cons, List.length_nil, List.length_take, List.length_drop, List.length_map]; omega) | simp) [wrap_i64, wrap_u16_id, wrap_u8_id, tdiv_pos, tmod_pos, -getElem?_pos, -getElem?_neg, -List.length_eq_zero_iff, -List.getElem_cons_drop, hk, hkl, c1, c2, hT, hA, hB, n0, n1]; all_goals (repeat' (first | rfl | apply And.intro))⟩
    · exact key ⟨_, by simp -implicitDefEqProofs (disch := first | omega | (simp only [List.length_set, List.length_append, List.length_cons, List.length_nil, List.length_take, List.length_drop, List.length_map]; omega) | simp) [wrap_i64, wrap_u16_id, wrap_u8_id, tdiv_pos, tmod_pos, -getElem?_pos, -getElem?_neg, -List.length_eq_zero_iff, -List.getElem_cons_drop, hk, hkl, c1, hT, hA, hB, n0, n1]; all_goals (repeat' (first | rfl | apply And.intro))⟩
def toldV (m : Mst) : An × Bool := if (rdV m.came).2 ≠ 0 ∨ (rdV m.came).1.u ≠ m.u then (anZ, false) else ((ansReadV m.a (rdV m.came).1.p).1, decide ((ansReadV m.a (rdV m.came).1.p).2 = 0))
theorem mTold_c (n k : Nat) (hn : 1300 ≤ n) (H : Heap) (m : Mst) (t1 t2 t3 : Tag) (hk : H[k]? = some (m.B t1 t2 t3)) (oa : RqOk m.a) (hb : Bytes m.came) (hl : m.came.length ≤ 1000) :
    ∃ s, okT s ∧ cO2 n 48 [.ptr k 0] H = some (.tup [anE (toldV m).1 s s s, Bo (toldV m).2]) := by
  obtain ⟨n, rfl⟩ : ∃ m, n = m + 1 := ⟨n - 1, by omega⟩
  have hkl := hp_lt hk
  have hR := cP_up (rtu_Read_c n m.came t3 hb hl (by omega))
  have ok := rdV_ok m.came hb
  have hA := Read_c n (by omega) m.a oa (rdV m.came).1.p ok.p t1 t2 .sh
  unfold toldV
  have key : ∀ (r : An × Bool) (s : Tag), (∃ H', s___master_Master__told n H H.length (.ptr k 0) = some (.tup [anE r.1 s s s, Bo r.2], H')) → okT s → cO2 (n + 1) 48 [.ptr k 0] H = some (.tup [anE r.1 s s s, Bo r.2]) := by
    intro r s ⟨H', h⟩ hs
    exact cO2_of ((s___master_Master__told_eq _ _ _ _).trans h) (by simp [anE, oldLeaf_okT hs])
  by_cases c1 : (rdV m.came).2 = 0
  · by_cases c2 : (rdV m.came).1.u = m.u
    · rw [if_neg (by simp [c1, c2])]
      unfold s___master_Master__told at key
      generalize (rdV m.came).2 = e at *
      generalize (rdV m.came).1 = x at *
      generalize (ansReadV m.a x.p).2 = e2 at *
      generalize (ansReadV m.a x.p).1 = y at *
      unfold Mst.B Mst.C rqE anE fmE at *
      exact ⟨.sh, .inl rfl, key (_, _) .sh ⟨_, by simp -implicitDefEqProofs (disch := first | omega | (simp only [List.length_set, List.length_append, List.length_cons, List.length_nil, List.length_take, List.length_drop, List.length_map]; omega) | simp) [wrap_i64, wrap_u16_id, wrap_u8_id, tdiv_pos, tmod_pos, -getElem?_pos, -getElem?_neg, -List.length_eq_zero_iff, -List.getElem_cons_drop, hk, hkl, c1, c2, hR, hA]; all_goals (repeat' (first | rfl | apply And.intro))⟩ (.inl rfl)⟩
    · rw [if_pos (.inr c2)]
      unfold s___master_Master__told at key
      generalize (rdV m.came).2 = e at *
      generalize (rdV m.came).1 = x at *
      unfold Mst.B Mst.C anE fmE anZ at *
      exact ⟨.ti, .inr rfl, key (_, _) .ti ⟨_, by simp -implicitDefEqProofs (disch := first | omega | (simp only [List.length_set, List.length_append, List.length_cons, List.length_nil, List.length_take, List.length_drop, List.length_map]; omega) | simp) [wrap_i64, wrap_u16_id, wrap_u8_id, tdiv_pos, tmod_pos, -getElem?_pos, -getElem?_neg, -List.length_eq_zero_iff, -List.getElem_cons_drop, hk, hkl, c1, c2, hR]; all_goals (repeat' (first | rfl | apply And.intro))⟩ (.inr rfl)⟩
  · rw [if_pos (.inl c1)]
    unfold s___master_Master__told at key
    generalize (rdV m.came).2 = e at *
    generalize (rdV m.came).1 = x at *
    unfold Mst.B Mst.C anE fmE anZ at *
    exact ⟨.ti, .inr rfl, key (_, _) .ti ⟨_, by simp -implicitDefEqProofs (disch := first | omega | (simp only [List.length_set, List.length_append, List.length_cons, List.length_nil, List.length_take, List.length_drop, List.length_map]; omega) | simp) [wrap_i64, wrap_u16_id, wrap_u8_id, tdiv_pos, tmod_pos, -getElem?_pos, -getElem?_neg, -List.length_eq_zero_iff, -List.getElem_cons_drop, hk, hkl, c1, hR]; all_goals (repeat' (first | rfl | apply And.intro))⟩ (.inr rfl)⟩
end Go.Proofs.YtcpgmbpndpcmdaaGreat
namespace Go.Proofs.YtcpgmbpndpcmdaaGreat
open Go
set_option linter.unusedSimpArgs false
set_option linter.unusedVariables false
set_option maxRecDepth 100000
set_option maxHeartbeats 1000000
def waitV (m : Mst) : Int × An × Mst :=
  if m.came ≠ [] ∧ m.g ≤ m.q then (if (toldV m).2 = true then (1, (toldV m).1, m.turn 0) else ((failedV m 3).1, anZ, (failedV m 3).2))
  else if m.came ≠ [] ∧ 2 * m.wt ≤ m.f then ((failedV m 3).1, anZ, (failedV m 3).2)
  else if m.came = [] ∧ m.wt ≤ m.f then ((failedV m 2).1, anZ, (failedV m 2).2)
  else (0, anZ, m)
theorem failed_turn (m : Mst) (kind : Int) : ∃ st, (failedV m kind).2 = m.turn st := by
  unfold failedV
  split
  · exact ⟨1, rfl⟩
  · exact ⟨0, rfl⟩
theorem MTag.old {t1 t2 t3 : Tag} {len : Nat} {H : Heap} (ht : MTag t1 t2 t3 len H) (X : Heap) (l : List Int) : oldLeaf H.length X (LV 1 (I .u8) l t3) = some (LV 1 (I .u8) l t3) := by
  have h3 := ht.sc 1 (I .u8) l
  unfold oldLeaf
  rw [LV_leaf, h3]
  rfl
theorem mWait_c (n k fl : Nat) (hn : 1400 ≤ n) (H : Heap) (m : Mst) (t1 t2 t3 : Tag) (hk : H[k]? = some (m.B t1 t2 t3)) (hw : WfH H) (hfl : fl ≤ k) (ht : MTag t1 t2 t3 m.came.length H)
    (oa : RqOk m.a) (hb : Bytes m.came) (hl : m.came.length ≤ 1000) (hwt : 0 ≤ m.wt ∧ m.wt ≤ 1000000) :
    ∃ tb t3', KeepT t3 t3' m (waitV m).2.2 ∧ okT tb ∧ cW2 n 24 [.ptr k 0] H fl = some (.tup [LV 1 (I .u8) [] .ti, outE (waitV m).1 (waitV m).2.1 tb tb tb], H.set k ((waitV m).2.2.B t1 t2 t3')) := by
  obtain ⟨n, rfl⟩ : ∃ m, n = m + 1 := ⟨n - 1, by omega⟩
  have hkl := hp_lt hk
  have h1 := ht.a
  have h2 := ht.b
  have h3 := ht.old
  obtain ⟨w0, w1⟩ := hwt
  have hF := fun kind => mFailed_c n k fl (by omega) (H ++ [outZ]) m t1 t2 t3 kind (by rw [hp_get_left _ _ _ hkl]; exact hk) hw.out hfl h1 h2
  have hT := mTurn_c n k fl (by omega) (H ++ [outZ]) m t1 t2 t3 0 (by rw [hp_get_left _ _ _ hkl]; exact hk) hw.out hfl h1 h2
  have hR := mRest_c n k (by omega) (H ++ [outZ])
  simp only [hp_set_left _ _ _ _ hkl] at hF hT
  have key : ∀ (r : Int × An × Mst) (tb t3' : Tag), (waitV m) = r → okT tb → (t3' = .ti ∧ r.2.2.came = [] ∨ t3' = t3 ∧ r.2.2.came = m.came) →
      (∃ X, s___master_Master__wait n H fl (.ptr k 0) = some (.tup [LV 1 (I .u8) [] .ti, outE r.1 r.2.1 tb tb tb], H.set k (r.2.2.B t1 t2 t3') ++ X)) →
      ∃ tb t3', KeepT t3 t3' m (waitV m).2.2 ∧ okT tb ∧ cW2 (n + 1) 24 [.ptr k 0] H fl = some (.tup [LV 1 (I .u8) [] .ti, outE (waitV m).1 (waitV m).2.1 tb tb tb], H.set k ((waitV m).2.2.B t1 t2 t3')) := by
    intro r tb t3' e1 htb hk3 ⟨X, h⟩
    rw [e1]
    refine ⟨tb, t3', hk3, htb, cW2_of ((s___master_Master__wait_eq _ _ _ _).trans h) (by simp [outE, oldLeaf_okT htb]) (cutH_set hw (k := k) hkl (by simp [hkl]) (fun j hj hjk => by rw [hp_get_left _ _ _ (by simpa using hj), hp_set_ne _ _ _ _ hjk]) (Mst.old h1 h2 fun l => ?_))⟩
    rcases hk3 with ⟨rfl, _⟩ | ⟨rfl, _⟩
    · simp
    · exact h3 _ l
  obtain ⟨ts, hts, hD⟩ := mTold_c n k (by omega) (H ++ [outZ, .hole]) m t1 t2 t3 (by rw [hp_get_left _ _ _ hkl]; exact hk) oa hb hl
  have fc : ∀ kind, (failedV m kind).2.came = [] := fun kind => by
    obtain ⟨st, e⟩ := failed_turn m kind
    rw [e]
    rfl
  unfold waitV at key ⊢
  unfold s___master_Master__wait at key
  generalize toldV m = tv at *
  obtain ⟨y, is⟩ := tv
  have hk0 := hk
  by_cases c0 : m.came = []
  · simp only [c0, ne_eq, not_true, false_and, if_false, true_and] at key ⊢
    have hlen : m.came.length = 0 := by rw [c0]; rfl
    by_cases c1 : m.wt ≤ m.f
    · have hF := hF 2
      have fc := fc 2
      generalize failedV m 2 = r at *
      unfold Mst.B Mst.C at hk
      unfold outE outZ anZ at *
      exact key (r.1, anZ, r.2) .ti .ti (if_pos c1) (.inr rfl) (.inl ⟨rfl, fc⟩) ⟨_, by simp -implicitDefEqProofs (disch := first | omega | (simp only [List.length_set, List.length_append, List.length_cons, List.length_nil, List.length_take, List.length_drop, List.length_map]; omega) | simp) [wrap_i64, wrap_u16_id, wrap_u8_id, tdiv_pos, tmod_pos, -getElem?_pos, -getElem?_neg, -List.length_eq_zero_iff, -List.getElem_cons_drop, hk, hkl, hlen, c1, hF, anZ]; all_goals (repeat' (first | rfl | apply And.intro))⟩
    · have e := hp_set_same hk
      unfold Mst.B Mst.C at hk
      unfold outE outZ anZ at *
      exact key (0, anZ, m) .ti t3 (if_neg c1) (.inr rfl) (.inr ⟨rfl, c0⟩) ⟨_, by simp -implicitDefEqProofs (disch := first | omega | (simp only [List.length_set, List.length_append, List.length_cons, List.length_nil, List.length_take, List.length_drop, List.length_map]; omega) | simp) [wrap_i64, wrap_u16_id, wrap_u8_id, tdiv_pos, tmod_pos, -getElem?_pos, -getElem?_neg, -List.length_eq_zero_iff, -List.getElem_cons_drop, hk, hkl, hlen, c1, hR, e, anZ]; all_goals (repeat' (first | rfl | apply And.intro))⟩
  · simp only [c0, ne_eq, not_false_eq_true, false_and, if_false, true_and] at key ⊢
    have hlen : 0 < m.came.length := List.length_pos_iff.2 c0
    by_cases c1 : m.g ≤ m.q
    · cases is with
      | true =>
        simp only [if_pos c1, if_true] at key ⊢
        have hT := mTurn_c n k fl (by omega) (H ++ [outZ, .cells 46 (anE y ts ts ts).cells]) m t1 t2 t3 0 (by rw [hp_get_left _ _ _ hkl]; exact hk0) (hw.app fun b hb => by
          simp only [List.mem_cons, List.not_mem_nil, or_false] at hb
          rcases hb with rfl | rfl
          · intro d hd
            simp only [List.mem_cons, List.not_mem_nil, or_false] at hd
            rcases hd with rfl | rfl | rfl | rfl | rfl <;> rfl
          · intro d hd
            unfold anE at hd
            simp only [cells_agg, List.mem_cons, List.not_mem_nil, or_false] at hd
            rcases hd with rfl | rfl | rfl | rfl <;> simp [inSc_okT hts]) hfl h1 h2
        simp only [hp_set_left _ _ _ _ hkl] at hT
        unfold Mst.B Mst.C at hk
        unfold outE outZ anE at *
        simp only [cells_agg] at hT
        exact key (1, y, m.turn 0) ts .ti rfl hts (.inl ⟨rfl, rfl⟩) ⟨_, by simp -implicitDefEqProofs (disch := first | omega | (simp only [List.length_set, List.length_append, List.length_cons, List.length_nil, List.length_take, List.length_drop, List.length_map]; omega) | simp) [wrap_i64, wrap_u16_id, wrap_u8_id, tdiv_pos, tmod_pos, -getElem?_pos, -getElem?_neg, -List.length_eq_zero_iff, -List.getElem_cons_drop, hk, hkl, hlen, c1, hD, hT]; all_goals (repeat' (first | rfl | apply And.intro))⟩
      | false =>
        simp only [if_pos c1, Bool.false_eq_true, if_false] at key ⊢
        have hF := mFailed_c n k fl (by omega) (H ++ [outZ, .cells 46 (anE y ts ts ts).cells]) m t1 t2 t3 3 (by rw [hp_get_left _ _ _ hkl]; exact hk0) (hw.app fun b hb => by
          simp only [List.mem_cons, List.not_mem_nil, or_false] at hb
          rcases hb with rfl | rfl
          · intro d hd
            simp only [List.mem_cons, List.not_mem_nil, or_false] at hd
            rcases hd with rfl | rfl | rfl | rfl | rfl <;> rfl
          · intro d hd
            unfold anE at hd
            simp only [cells_agg, List.mem_cons, List.not_mem_nil, or_false] at hd
            rcases hd with rfl | rfl | rfl | rfl <;> simp [inSc_okT hts]) hfl h1 h2
        simp only [hp_set_left _ _ _ _ hkl] at hF
        have fc := fc 3
        generalize failedV m 3 = r at *
        unfold Mst.B Mst.C at hk
        unfold outE outZ anE anZ at *
        simp only [cells_agg] at hF
        exact key (r.1, anZ, r.2) .ti .ti rfl (.inr rfl) (.inl ⟨rfl, fc⟩) ⟨_, by simp -implicitDefEqProofs (disch := first | omega | (simp only [List.length_set, List.length_append, List.length_cons, List.length_nil, List.length_take, List.length_drop, List.length_map]; omega) | simp) [wrap_i64, wrap_u16_id, wrap_u8_id, tdiv_pos, tmod_pos, -getElem?_pos, -getElem?_neg, -List.length_eq_zero_iff, -List.getElem_cons_drop, hk, hkl, hlen, c1, hD, hF, anZ]; all_goals (repeat' (first | rfl | apply And.intro))⟩
    · by_cases c2 : 2 * m.wt ≤ m.f
      · simp only [if_neg c1, if_pos c2] at key ⊢
        have hF := hF 3
        have fc := fc 3
        generalize failedV m 3 = r at *
        unfold Mst.B Mst.C at hk
        unfold outE outZ anZ at *
        exact key (r.1, anZ, r.2) .ti .ti rfl (.inr rfl) (.inl ⟨rfl, fc⟩) ⟨_, by simp -implicitDefEqProofs (disch := first | omega | (simp only [List.length_set, List.length_append, List.length_cons, List.length_nil, List.length_take, List.length_drop, List.length_map]; omega) | simp) [wrap_i64, wrap_u16_id, wrap_u8_id, tdiv_pos, tmod_pos, -getElem?_pos, -getElem?_neg, -List.length_eq_zero_iff, -List.getElem_cons_drop, hk, hkl, hlen, c1, c2, hF, anZ]; all_goals (repeat' (first | rfl | apply And.intro))⟩
      · simp only [if_neg c1, if_neg c2] at key ⊢
        have e := hp_set_same hk
        unfold Mst.B Mst.C at hk
        unfold outE outZ anZ at *
        exact key (0, anZ, m) .ti t3 rfl (.inr rfl) (.inr ⟨rfl, rfl⟩) ⟨_, by simp -implicitDefEqProofs (disch := first | omega | (simp only [List.length_set, List.length_append, List.length_cons, List.length_nil, List.length_take, List.length_drop, List.length_map]; omega) | simp) [wrap_i64, wrap_u16_id, wrap_u8_id, tdiv_pos, tmod_pos, -getElem?_pos, -getElem?_neg, -List.length_eq_zero_iff, -List.getElem_cons_drop, hk, hkl, hlen, c1, c2, hR, e, anZ]; all_goals (repeat' (first | rfl | apply And.intro))⟩
end Go.Proofs.YtcpgmbpndpcmdaaGreat
namespace Go.Proofs.YtcpgmbpndpcmdaaGreat
open Go
set_option linter.unusedSimpArgs false
set_option linter.unusedVariables false
set_option maxRecDepth 100000
set_option maxHeartbeats 1000000
@[simp] theorem cells_clo (fn : Fn) (a b : List DV) : (DV.clo fn a b).cells = [.clo fn a b] := rfl
@[simp] theorem leaf_clo (fn : Fn) (a b : List DV) : (DV.clo fn a b).leaf = true := rfl
@[simp] theorem idxV_agg (ag : Bool) (sz len : Nat) (cs : List DV) (k : IntKind) (i : Int) (h0 : 0 ≤ i) (h1 : i < len) : idxV ag sz len (.agg cs) (.flat (.int k i)) = partD ag sz (i.toNat * sz) cs := by
  unfold idxV intD
  simp only [h0, h1, and_self, if_true]
theorem cV2_ro {n fl f : Nat} {x : DV} {fs args : List DV} {H : Heap} {d : DV} (hm : ENV2.md f = .ro) (h : cO2 n f (x :: fs ++ args) H = some d) : cV2 n fl (.clo (.func f) (x :: fs) []) args H = some (d, H) := by
  unfold cV2 callVG callV
  simp only [fnOf, hm, List.append_nil]
  have := callO_ok (cf' := callG Tryz.prog ENV2 n) (fun _ _ _ _ _ h => h) (fl := fl) h
  unfold callO at this
  rw [this]
  rfl
theorem cV2_rw {n fl f : Nat} {x : DV} {fs args : List DV} {H : Heap} (hm : ENV2.md f = .rw) : cV2 n fl (.clo (.func f) (x :: fs) []) args H = cW2 n f (x :: fs ++ args) H fl := by
  unfold cV2 callVG callV cW2 callW
  simp only [fnOf, hm, callD, List.append_nil]
  cases callG Tryz.prog ENV2 n f (x :: fs ++ args) H fl with
  | none => rfl
  | some r =>
    simp only [Option.bind_some, bi_some]
    cases oldD H.length r.2 r.1 with
    | none => rfl
    | some d =>
      simp only [Option.bind_some, bi_some]
      cases cutH H.length r.2 with
      | none => rfl
      | some H' => rfl
def Mst.tock (m : Mst) : Mst := { m with q := min (m.q + 1) 1048576, f := m.f + 1 }
def tickV (m : Mst) : List Int × Int × An × Mst := if m.st = 0 then ([], 0, anZ, m.tock) else if m.st = 1 then ((sendV m.tock).1, 0, anZ, (sendV m.tock).2) else ([], waitV m.tock)
structure MstOk (m : Mst) (x : Int) : Prop where
  u : 0 ≤ m.u ∧ m.u < 256
  wt : 0 ≤ m.wt ∧ m.wt ≤ 1000000
  st : m.st = 0 ∨ m.st = 1 ∨ m.st = 2
  q : 0 ≤ m.q ∧ m.q ≤ 1048576
  f : 0 ≤ m.f ∧ m.f ≤ x
  n : 0 ≤ m.n ∧ m.n ≤ x
  a : m.st ≠ 0 → RightP m.a
  oa : RqOk m.a
  b : Bytes m.came
  l : m.came.length ≤ 300
theorem mTick_c (n k fl : Nat) (hn : 1500 ≤ n) (H : Heap) (m : Mst) (x : Int) (t1 t2 t3 : Tag) (hk : H[k]? = some (m.B t1 t2 t3)) (hw : WfH H) (hfl : fl ≤ k) (ht : MTag t1 t2 t3 m.came.length H) (ok : MstOk m x) (hx : x < 1000000) :
    ∃ tb tq t3', KeepT t3 t3' m (tickV m).2.2.2 ∧ okT tb ∧ okT tq ∧ cW2 n 10 [.ptr k 0] H fl = some (.tup [LV 1 (I .u8) (tickV m).1 tb, outE (tickV m).2.1 (tickV m).2.2.1 tq tq tq], H.set k ((tickV m).2.2.2.B t1 t2 t3')) := by
  obtain ⟨n, rfl⟩ : ∃ m, n = m + 1 := ⟨n - 1, by omega⟩
  have hkl := hp_lt hk
  have h1 := ht.a
  have h2 := ht.b
  have h3 := ht.old
  obtain ⟨q0, q1⟩ := ok.q
  obtain ⟨f0, f1⟩ := ok.f
  have n0 := ok.n
  have hf2 : m.f + 1 < 9223372036854775808 := by omega
  have key : ∀ (r : List Int × Int × An × Mst) (tb tq t3' : Tag), tickV m = r → okT tb → okT tq → KeepT t3 t3' m r.2.2.2 →
      (∃ X, s___master_Master__Tick n H fl (.ptr k 0) = some (.tup [LV 1 (I .u8) r.1 tb, outE r.2.1 r.2.2.1 tq tq tq], H.set k (r.2.2.2.B t1 t2 t3') ++ X)) →
      ∃ tb tq t3', KeepT t3 t3' m (tickV m).2.2.2 ∧ okT tb ∧ okT tq ∧ cW2 (n + 1) 10 [.ptr k 0] H fl = some (.tup [LV 1 (I .u8) (tickV m).1 tb, outE (tickV m).2.1 (tickV m).2.2.1 tq tq tq], H.set k ((tickV m).2.2.2.B t1 t2 t3')) := by
    intro r tb tq t3' e1 htb hto hk3 ⟨X, h⟩
    rw [e1]
    refine ⟨tb, tq, t3', hk3, htb, hto, cW2_of ((s___master_Master__Tick_eq _ _ _ _).trans h) (by simp [outE, oldLeaf_okT htb, oldLeaf_okT hto]) (cutH_set hw (k := k) hkl (by simp [hkl]) (fun j hj hjk => by rw [hp_get_left _ _ _ (by simpa using hj), hp_set_ne _ _ _ _ hjk]) (Mst.old h1 h2 fun l => ?_))⟩
    rcases hk3 with ⟨rfl, _⟩ | ⟨rfl, _⟩
    · simp
    · exact h3 _ l
  have hk1 : (H.set k (m.tock.B t1 t2 t3) ++ [outZ])[k]? = some (m.tock.B t1 t2 t3) := by simp [hkl]
  have hw1 : WfH (H.set k (m.tock.B t1 t2 t3)) := hw.set k (Mst.wf h1 h2 fun l => ht.sc 1 (I .u8) l)
  have ht1 : MTag t1 t2 t3 m.tock.came.length (H.set k (m.tock.B t1 t2 t3) ++ [outZ]) := by
    refine ⟨h1, h2, ?_⟩
    rcases ht.c with rfl | ⟨j, rfl, hj, hj0⟩
    · exact .inl rfl
    · have hjl := hp_lt hj
      have hjk : j ≠ k := by
        rintro rfl
        rw [hk] at hj
        cases hj
      exact .inr ⟨j, rfl, by rw [hp_get_left _ _ _ (by simpa using hjl), hp_set_ne _ _ _ _ hjk]; exact hj, hj0⟩
  have e0 : m.q + 1 < 9223372036854775808 := by omega
  have hmin : ∀ H', storeG 1 (.ptr k 5) (I .i64 (min (m.q + 1) 1048576)) H' fl = storeG 1 (.ptr k 5) (I .i64 m.tock.q) H' fl := fun _ => rfl
  unfold tickV at key ⊢
  unfold s___master_Master__Tick at key
  rcases ok.st with s | s | s
  · have hR := mRest_c n k (by omega) (H.set k (m.tock.B t1 t2 t3) ++ [outZ])
    have hV := cV2_ro (fl := fl) (n := n) (f := 22) (x := .ptr k 0) (fs := []) (args := []) (by kernel_rfl) hR
    simp only [s, if_true] at key ⊢
    unfold Mst.tock Mst.B Mst.C at *
    unfold outE outZ anZ at *
    rw [s] at hk hV
    exact key ([], 0, _, _) .ti .ti t3 rfl (.inr rfl) (.inr rfl) (.inr ⟨rfl, rfl⟩) ⟨_, by simp -implicitDefEqProofs (disch := first | omega | (simp only [List.length_set, List.length_append, List.length_cons, List.length_nil, List.length_take, List.length_drop, List.length_map]; omega) | simp) [wrap_i64, wrap_u16_id, wrap_u8_id, tdiv_pos, tmod_pos, -getElem?_pos, -getElem?_neg, -List.length_eq_zero_iff, -List.getElem_cons_drop, hk, hkl, hV, f0, hf2, q0, e0, s]; all_goals (repeat' (first | rfl | apply And.intro))⟩
  · obtain ⟨tb, t3', k1, k2, hS⟩ := mSend_c n k fl (by omega) (H.set k (m.tock.B t1 t2 t3) ++ [outZ]) m.tock t1 t2 t3 hk1 hw1.out hfl ht1 (ok.a (by omega)) ok.oa ok.u ⟨n0.1, by show m.n < _; omega⟩
    have hV := cV2_rw (n := n) (fl := fl) (f := 23) (x := .ptr k 0) (fs := []) (args := []) (H := H.set k (m.tock.B t1 t2 t3) ++ [outZ]) (by kernel_rfl)
    rw [List.append_nil, hS] at hV
    simp only [hp_set_left _ _ _ _ (show k < (H.set k (m.tock.B t1 t2 t3)).length by simpa using hkl), List.set_set] at hV
    clear hS
    simp only [s, if_true, show ¬ (1 : Int) = 0 by decide, if_false] at key ⊢
    generalize hr : sendV m.tock = r at *
    unfold Mst.tock Mst.B Mst.C at *
    unfold outE outZ anZ at *
    rw [s] at hk hV
    exact key (r.1, 0, _, r.2) tb .ti t3' rfl k2 (.inr rfl) k1 ⟨_, by simp -implicitDefEqProofs (disch := first | omega | (simp only [List.length_set, List.length_append, List.length_cons, List.length_nil, List.length_take, List.length_drop, List.length_map]; omega) | simp) [wrap_i64, wrap_u16_id, wrap_u8_id, tdiv_pos, tmod_pos, -getElem?_pos, -getElem?_neg, -List.length_eq_zero_iff, -List.getElem_cons_drop, hk, hkl, hV, f0, hf2, q0, e0, s]; all_goals (repeat' (first | rfl | apply And.intro))⟩
  · obtain ⟨tb, t3', k1, k2, hS⟩ := mWait_c n k fl (by omega) (H.set k (m.tock.B t1 t2 t3) ++ [outZ]) m.tock t1 t2 t3 hk1 hw1.out hfl ht1 ok.oa ok.b (by have := ok.l; show m.came.length ≤ _; omega) ok.wt
    have hV := cV2_rw (n := n) (fl := fl) (f := 24) (x := .ptr k 0) (fs := []) (args := []) (H := H.set k (m.tock.B t1 t2 t3) ++ [outZ]) (by kernel_rfl)
    rw [List.append_nil, hS] at hV
    simp only [hp_set_left _ _ _ _ (show k < (H.set k (m.tock.B t1 t2 t3)).length by simpa using hkl), List.set_set] at hV
    clear hS
    simp only [s, show ¬ (2 : Int) = 0 by decide, show ¬ (2 : Int) = 1 by decide, if_false] at key ⊢
    generalize hr : waitV m.tock = r at *
    unfold Mst.tock Mst.B Mst.C at *
    unfold outE outZ at *
    rw [s] at hk hV
    exact key ([], r) .ti tb t3' rfl (.inr rfl) k2 k1 ⟨_, by simp -implicitDefEqProofs (disch := first | omega | (simp only [List.length_set, List.length_append, List.length_cons, List.length_nil, List.length_take, List.length_drop, List.length_map]; omega) | simp) [wrap_i64, wrap_u16_id, wrap_u8_id, tdiv_pos, tmod_pos, -getElem?_pos, -getElem?_neg, -List.length_eq_zero_iff, -List.getElem_cons_drop, hk, hkl, hV, f0, hf2, q0, e0, s]; all_goals (repeat' (first | rfl | apply And.intro))⟩
end Go.Proofs.YtcpgmbpndpcmdaaGreat
namespace Go.Proofs.YtcpgmbpndpcmdaaGreat
open Go
set_option linter.unusedSimpArgs false
set_option linter.unusedVariables false
set_option maxRecDepth 100000
set_option maxHeartbeats 1000000
def takeV (m : Mst) (b : List Int) : Mst := if b = [] then m else if m.st = 2 then { m with q := 0, came := m.came ++ b.take (300 - m.came.length) } else { m with q := 0 }
structure Turned (H H' : Heap) (k : Nat) : Prop where
  len : H.length ≤ H'.length
  same : ∀ j b, j ≠ k → (∀ e s n, b ≠ DBlk.token e s n) → H[j]? = some b → H'[j]? = some b
  wf : WfH H → WfH H'
theorem Turned.refl (H : Heap) (k : Nat) : Turned H H k := ⟨Nat.le_refl _, fun _ _ _ _ h => h, id⟩
theorem Turned.set {H : Heap} {k : Nat} {b : DBlk} (hb : WfB H.length b) : Turned H (H.set k b) k := ⟨by simp, fun j c hj _ h => by rw [hp_set_ne _ _ _ _ hj]; exact h, fun h => h.set k hb⟩
theorem MTag.set {t1 t2 t3 : Tag} {len k : Nat} {H : Heap} {e : TypeId} {cs : List DV} {b : DBlk} (h : MTag t1 t2 t3 len H) (hk : H[k]? = some (.cells e cs)) : MTag t1 t2 t3 len (H.set k b) := by
  refine ⟨h.a, h.b, ?_⟩
  rcases h.c with rfl | ⟨j, rfl, hj, h0⟩
  · exact .inl rfl
  · have hjk : j ≠ k := by
      rintro rfl
      rw [hk] at hj
      cases hj
    exact .inr ⟨j, rfl, by rw [hp_set_ne _ _ _ _ hjk]; exact hj, h0⟩
theorem take_min (b : List Int) (c : Nat) (hc : c ≤ 300) : b.take (min (b.length : Int) (300 - (c : Int))).toNat = b.take (300 - c) := by
  have e : (min (b.length : Int) (300 - (c : Int))).toNat = min (300 - c) b.length := by omega
  rw [e, ← List.take_take, List.take_length]
theorem mTake_c (n k : Nat) (hn : 5 ≤ n) (H : Heap) (m : Mst) (b : List Int) (t t1 t2 t3 : Tag) (hk : H[k]? = some (m.B t1 t2 t3)) (ht : MTag t1 t2 t3 m.came.length H) (hl : m.came.length ≤ 300) (hb : b.length ≤ 1000000) :
    ∃ t3' H', cK2 n 16 [.ptr k 0, LV 1 (I .u8) b t] H 0 = some (.tup [], H') ∧ H'[k]? = some ((takeV m b).B t1 t2 t3') ∧ MTag t1 t2 t3' (takeV m b).came.length H' ∧ Turned H H' k := by
  obtain ⟨n, rfl⟩ : ∃ m, n = m + 1 := ⟨n - 1, by omega⟩
  have hkl := hp_lt hk
  have hlen : ∀ l : List Int, l ≠ [] → ¬ (l.length : Int) = 0 := fun l h h' => h (List.eq_nil_of_length_eq_zero (by omega))
  unfold cK2 takeV
  by_cases c1 : b = []
  · subst c1
    refine ⟨t3, H, (s___master_Master__Take_eq _ _ _ _ _).trans ?_, by rw [if_pos rfl]; exact hk, by rw [if_pos rfl]; exact ht, Turned.refl _ _⟩
    unfold s___master_Master__Take
    simp -implicitDefEqProofs (disch := first | omega | (simp only [List.length_set, List.length_append, List.length_cons, List.length_nil, List.length_take, List.length_drop, List.length_map]; omega) | simp) [wrap_i64, wrap_u16_id, wrap_u8_id, tdiv_pos, tmod_pos, -getElem?_pos, -getElem?_neg, -List.length_eq_zero_iff, -List.getElem_cons_drop]
  · have hbl := hlen b c1
    rw [if_neg c1]
    have hq : WfB H.length (Mst.B { m with q := 0 } t1 t2 t3) := Mst.wf ht.a ht.b fun l => ht.sc 1 (I .u8) l
    by_cases c2 : m.st = 2
    · rw [if_pos c2]
      obtain ⟨t4, H2, hA, hT, h2l, _, h2w, h2x⟩ := appG_all (e := 5) (ag := false) (sz := 1) (by_ := 1) (n0 := 0) (enc := I .u8) (xs := m.came) (ys := b.take (300 - m.came.length)) (t := t3) (t' := slT t ((min (b.length : Int) (300 - (m.came.length : Int))).toNat == b.length))
        (H := H.set k (Mst.B { m with q := 0 } t1 t2 t3)) (fl := 0) (Nat.le_refl _) (Nat.zero_le _) (ht.set hk).c rfl (by simp only [List.length_take]; omega) (by simp only [List.length_take]; omega)
      have hk2 : H2[k]? = some (Mst.B { m with q := 0 } t1 t2 t3) := h2x.2 k _ (hp_set_get _ _ _ hkl) (fun _ _ _ => by unfold Mst.B; exact fun h => by cases h)
      have hk2l := hp_lt hk2
      have hsc : ∀ l : List Int, inSc H2.length (LV 1 (I .u8) l t4) = true := fun l => (MTag.sc ⟨ht.a, ht.b, hT⟩ 1 (I .u8) l)
      have hfin : Turned H (H2.set k (Mst.B { m with q := 0, came := m.came ++ b.take (300 - m.came.length) } t1 t2 t4)) k := by
        refine ⟨by simp at h2l ⊢; omega, fun j c hj hc h => ?_, fun h => (h2w (h.set k hq)).set k (Mst.wf ht.a ht.b hsc)⟩
        rw [hp_set_ne _ _ _ _ hj]
        exact h2x.2 j c (by rw [hp_set_ne _ _ _ _ hj]; exact h) hc
      refine ⟨t4, _, (s___master_Master__Take_eq _ _ _ _ _).trans ?_, hp_set_get _ _ _ hk2l, ?_, hfin⟩
      · have e5 := take_min b m.came.length hl
        have hm0 : 0 ≤ min (b.length : Int) (300 - (m.came.length : Int)) := by omega
        have hm1 : min (b.length : Int) (300 - (m.came.length : Int)) ≤ b.length := by omega
        unfold s___master_Master__Take
        unfold Mst.B Mst.C at *
        simp only at *
        rw [c2] at hk hA hk2 ⊢
        simp -implicitDefEqProofs (disch := first | omega | (simp only [List.length_set, List.length_append, List.length_cons, List.length_nil, List.length_take, List.length_drop, List.length_map]; omega) | simp) [wrap_i64, wrap_u16_id, wrap_u8_id, tdiv_pos, tmod_pos, -getElem?_pos, -getElem?_neg, -List.length_eq_zero_iff, -List.getElem_cons_drop, hk, hkl, hbl, hA, hk2, hk2l, hm0, hm1, e5]
      · exact MTag.set (e := 69) (cs := Mst.C { m with q := 0 } t1 t2 t3) ⟨ht.a, ht.b, hT⟩ hk2
    · rw [if_neg c2]
      refine ⟨t3, H.set k (Mst.B { m with q := 0 } t1 t2 t3), (s___master_Master__Take_eq _ _ _ _ _).trans ?_, hp_set_get _ _ _ hkl, ht.set hk, Turned.set hq⟩
      unfold s___master_Master__Take
      unfold Mst.B Mst.C at *
      simp -implicitDefEqProofs (disch := first | omega | (simp only [List.length_set, List.length_append, List.length_cons, List.length_nil, List.length_take, List.length_drop, List.length_map]; omega) | simp) [wrap_i64, wrap_u16_id, wrap_u8_id, tdiv_pos, tmod_pos, -getElem?_pos, -getElem?_neg, -List.length_eq_zero_iff, -List.getElem_cons_drop, hk, hkl, hbl, c2]
      all_goals (repeat' (first | rfl | apply And.intro))
def startV (m : Mst) (a : Rq) : Int × Mst := if m.st ≠ 0 then (8, m) else if ¬ RightP a then (2, m) else (0, { m with st := 1, f := 0, n := 0, a := a, came := [] })
theorem mStart_c (n k fl : Nat) (hn : 20 ≤ n) (H : Heap) (m : Mst) (a : Rq) (s1 s2 t1 t2 t3 : Tag) (hk : H[k]? = some (m.B t1 t2 t3)) (hw : WfH H) (hfl : fl ≤ k) (ht : MTag t1 t2 t3 m.came.length H) (oa : RightP a → RqOk a) (os1 : okT s1) (os2 : okT s2) :
    ∃ t1' t2' t3', okT t1' ∧ okT t2' ∧ KeepT t3 t3' m (startV m a).2 ∧ cW2 n 14 [.ptr k 0, rqE a s1 s2] H fl = some (I .i64 (startV m a).1, H.set k ((startV m a).2.B t1' t2' t3')) := by
  obtain ⟨n, rfl⟩ : ∃ m, n = m + 1 := ⟨n - 1, by omega⟩
  have hkl := hp_lt hk
  have h1 := ht.a
  have h2 := ht.b
  have h3 := ht.old
  have same : ∀ (e : Int) (X : Heap), s___master_Master__Start n H fl (.ptr k 0) (rqE a s1 s2) = some (I .i64 e, H ++ X) → cW2 (n + 1) 14 [.ptr k 0, rqE a s1 s2] H fl = some (I .i64 e, H.set k (m.B t1 t2 t3)) := by
    intro e X h
    exact cW2_of ((s___master_Master__Start_eq _ _ _ _ _).trans h) (by simp) (cutH_set hw (k := k) (b := m.B t1 t2 t3) hkl (by rw [hp_get_left _ _ _ hkl]; exact hk) (fun j hj hjk => by rw [hp_get_left _ _ _ hj]) (Mst.old h1 h2 (h3 _)))
  have hB := fun X => mBusy_c n k (by omega) (H ++ X) m t1 t2 t3 (by rw [hp_get_left _ _ _ hkl]; exact hk)
  have hR := cP_up (Right_c n (by omega) a s1 s2)
  unfold startV
  by_cases c1 : m.st = 0
  · rw [if_neg (by simpa using c1)]
    have hB : ∀ X, cO2 n 18 [.ptr k 0] (H ++ X) = some (Bo false) := fun X => by rw [hB X, c1]; rfl
    by_cases c2 : RightP a
    · rw [if_neg (by simpa using c2)]
      rw [decide_eq_true c2] at hR
      have oa := oa c2
      have hC := clone16_c n (by omega) a.words s1 oa.w (by have := oa.lw; omega)
      have hD := cloneB_c n (by omega) a.bits s2 (by have := oa.lb; omega)
      have hbox : WfH (H.set k (Mst.B { m with a := a, n := 0 } .sh .sh t3) ++ [.cells 40 (rqE a .sh .sh).cells]) := (hw.set k (Mst.wf (.inl rfl) (.inl rfl) fun l => ht.sc 1 (I .u8) l)).app fun b hb => by
        simp only [List.mem_singleton] at hb
        subst hb
        intro d hd
        unfold rqE at hd
        simp only [cells_agg, List.mem_cons, List.not_mem_nil, or_false] at hd
        rcases hd with rfl | rfl | rfl | rfl | rfl | rfl | rfl | rfl <;> simp
      have hT := mTurn_c n k fl (by omega) (H.set k (Mst.B { m with a := a, n := 0 } .sh .sh t3) ++ [.cells 40 (rqE a .sh .sh).cells]) { m with a := a, n := 0 } .sh .sh t3 1 (by simp [hkl]) hbox hfl (.inl rfl) (.inl rfl)
      simp only [hp_set_left _ _ _ _ (show k < (H.set k (Mst.B { m with a := a, n := 0 } .sh .sh t3)).length by simpa using hkl), List.set_set] at hT
      refine ⟨.sh, .sh, .ti, .inl rfl, .inl rfl, .inl ⟨rfl, rfl⟩, ?_⟩
      refine cW2_of (r := I .i64 0) (H' := H.set k (Mst.B { m with st := 1, f := 0, n := 0, a := a, came := [] } .sh .sh .ti) ++ [.cells 40 (rqE a .sh .sh).cells]) ((s___master_Master__Start_eq _ _ _ _ _).trans ?_) (by simp) (cutH_set hw (k := k) hkl (by simp [hkl]) (fun j hj hjk => by rw [hp_get_left _ _ _ (by simpa using hj), hp_set_ne _ _ _ _ hjk]) (Mst.old (.inl rfl) (.inl rfl) fun l => by simp))
      unfold s___master_Master__Start
      unfold Mst.B Mst.C Mst.turn at *
      unfold rqE at *
      simp only [cells_agg] at hT ⊢
      simp -implicitDefEqProofs (disch := first | omega | (simp only [List.length_set, List.length_append, List.length_cons, List.length_nil, List.length_take, List.length_drop, List.length_map]; omega) | simp) [wrap_i64, wrap_u16_id, wrap_u8_id, tdiv_pos, tmod_pos, -getElem?_pos, -getElem?_neg, -List.length_eq_zero_iff, -List.getElem_cons_drop, hk, hkl, hB, hR, hC, hD, hT]
    · rw [if_pos c2]
      rw [decide_eq_false c2] at hR
      refine ⟨t1, t2, t3, h1, h2, .inr ⟨rfl, rfl⟩, same 2 [.cells 40 (rqE a s1 s2).cells] ?_⟩
      unfold s___master_Master__Start
      unfold rqE at *
      simp -implicitDefEqProofs (disch := first | omega | (simp only [List.length_set, List.length_append, List.length_cons, List.length_nil, List.length_take, List.length_drop, List.length_map]; omega) | simp) [wrap_i64, wrap_u16_id, wrap_u8_id, tdiv_pos, tmod_pos, -getElem?_pos, -getElem?_neg, -List.length_eq_zero_iff, -List.getElem_cons_drop, hkl, hB, hR]
  · rw [if_pos (by simpa using c1)]
    have hB : ∀ X, cO2 n 18 [.ptr k 0] (H ++ X) = some (Bo true) := fun X => by rw [hB X, decide_eq_true (by simpa using c1)]
    refine ⟨t1, t2, t3, h1, h2, .inr ⟨rfl, rfl⟩, same 8 [.cells 40 (rqE a s1 s2).cells] ?_⟩
    unfold s___master_Master__Start
    unfold rqE at *
    simp -implicitDefEqProofs (disch := first | omega | (simp only [List.length_set, List.length_append, List.length_cons, List.length_nil, List.length_take, List.length_drop, List.length_map]; omega) | simp) [wrap_i64, wrap_u16_id, wrap_u8_id, tdiv_pos, tmod_pos, -getElem?_pos, -getElem?_neg, -List.length_eq_zero_iff, -List.getElem_cons_drop, hkl, hB]
end Go.Proofs.YtcpgmbpndpcmdaaGreat
namespace Go.Proofs.YtcpgmbpndpcmdaaGreat
open Go
set_option linter.unusedSimpArgs false
set_option linter.unusedVariables false
theorem MTag.step {t1 t2 t3 t3' : Tag} {m r : Mst} {k : Nat} {H X : Heap} {e : TypeId} {cs : List DV} {b : DBlk} (h : MTag t1 t2 t3 m.came.length H) (hk : H[k]? = some (.cells e cs)) (hq : KeepT t3 t3' m r) : MTag t1 t2 t3' r.came.length (H.set k b ++ X) := by
  refine ⟨h.a, h.b, ?_⟩
  rcases hq with ⟨rfl, _⟩ | ⟨rfl, e2⟩
  · exact .inl rfl
  · rw [e2]
    rcases (h.set (b := b) hk).c with rfl | ⟨j, rfl, hj, h0⟩
    · exact .inl rfl
    · exact .inr ⟨j, rfl, by rw [hp_get_left _ _ _ (hp_lt hj)]; exact hj, h0⟩
theorem MTag.app {t1 t2 t3 : Tag} {len : Nat} {H : Heap} (X : Heap) (h : MTag t1 t2 t3 len H) : MTag t1 t2 t3 len (H ++ X) := by
  refine ⟨h.a, h.b, ?_⟩
  rcases h.c with rfl | ⟨j, rfl, hj, h0⟩
  · exact .inl rfl
  · exact .inr ⟨j, rfl, by rw [hp_get_left _ _ _ (hp_lt hj)]; exact hj, h0⟩
def outB (k : Int) (x : An) (t1 t2 t3 : Tag) : DBlk := .cells 48 [I .i64 k, I .i64 x.exc, LV 1 Bo x.bits t1, LV 1 (I .u16) x.words t2, LV 1 Sg x.texts t3]
theorem WfH.outB {H : Heap} (h : WfH H) {k : Int} {x : An} {t : Tag} (ht : okT t) : WfH (H ++ [Go.Proofs.YtcpgmbpndpcmdaaGreat.outB k x t t t]) := h.app fun b hb => by
  simp only [List.mem_singleton] at hb
  subst hb
  intro d hd
  simp only [List.mem_cons, List.not_mem_nil, or_false] at hd
  rcases hd with rfl | rfl | rfl | rfl | rfl <;> simp [inSc_okT ht]
theorem KeepT.sc {t1 t2 t3 t3' : Tag} {m r : Mst} {H : Heap} (h : MTag t1 t2 t3 m.came.length H) (hq : KeepT t3 t3' m r) (l : List Int) : inSc H.length (LV 1 (I .u8) l t3') = true := by
  rcases hq with ⟨rfl, _⟩ | ⟨rfl, _⟩
  · simp
  · exact h.sc 1 (I .u8) l
theorem KeepT.wf {t1 t2 t3 t3' : Tag} {m r : Mst} {H : Heap} (h : MTag t1 t2 t3 m.came.length H) (hq : KeepT t3 t3' m r) : WfB H.length (r.B t1 t2 t3') := Mst.wf h.a h.b (hq.sc h)
theorem shp_cfg {d : Nat} {e : List DV} (h : Shp Tryz.prog (d + 3) 23 e) : ∃ u g wt tr : Int, elOf (isAgT Tryz.prog 23) e = cfgE u g wt tr ∧ (0 ≤ u ∧ u < 256) ∧ (∀ x, x = g ∨ x = wt ∨ x = tr → -9223372036854775808 ≤ x ∧ x < 9223372036854775808) := by
  have h := shp_struct Tryz.underlying23 h
  simp only [List.map_cons, List.map_nil, ShpFs] at h
  obtain ⟨a, _, rfl, ha, b, _, rfl, hb, c, _, rfl, hc, d, _, rfl, hd, rfl⟩ := h
  obtain ⟨u, rfl, hu⟩ := shp_int (k := .u8) Tryz.underlying5 ha
  obtain ⟨g, rfl, hg⟩ := shp_int (k := .i64) Tryz.underlying3 hb
  obtain ⟨w, rfl, hw⟩ := shp_int (k := .i64) Tryz.underlying3 hc
  obtain ⟨t, rfl, ht⟩ := shp_int (k := .i64) Tryz.underlying3 hd
  refine ⟨u, g, w, t, by kernel_rfl, wf_u8 hu, fun x hx => ?_⟩
  rcases hx with rfl | rfl | rfl
  · exact wf_i64 hg
  · exact wf_i64 hw
  · exact wf_i64 ht
end Go.Proofs.YtcpgmbpndpcmdaaGreat
