/- Texts of mine, laid together: FRef7T, GRef7T, GRef7D, GRefM, GRefM2, GRefM3, GMasR, Pfuel, GAw08. -/
import Derived.Test.YtcpgmbpndpcmdaaGreatKD9
namespace Go.Proofs.YtcpgmbpndpcmdaaGreat
open Go
set_option maxRecDepth 100000
set_option linter.unusedVariables false
def s_triuneref07_text_I0 (x2 x3 x9 x10 : DV) : List DV := [.any, .any, x2, x3, .any, .any, .any, .any, .any, x9, x10, .any, .any, .any, .any, .any, .any, .any, .any, .any, .any, .any, .any, .any, .any, .any, .any, .any, .any, .any, .any, .any, .any, .any, .any, .any, .any, .any, .any, .any, .any, .any, .any, .any, .any, .any, .any, .any, .any, .any, .any, .any, .any, .any, .any, .any, .any, .any, .any, .any, .any, .any, .any, .any, .any, .any, .any, .any, .any, .any, .any, .any, .any, .any, .any, .any, .any, .any, .any, .any, .any, .any, .any, .any, .any, .any, .any, .any, .any, .any, .any, .any, .any, .any, .any, .any, .any, .any, .any, .any, .any, .any, .any, .any, .any, .any, .any, .any]
def s_triuneref07_text_O0 (x9 : DV) : List DV := [.any, .any, .any, .any, .any, .any, .any, .any, .any, x9, .any, .any, .any, .any, .any, .any, .any, .any, .any, .any, .any, .any, .any, .any, .any, .any, .any, .any, .any, .any, .any, .any, .any, .any, .any, .any, .any, .any, .any, .any, .any, .any, .any, .any, .any, .any, .any, .any, .any, .any, .any, .any, .any, .any, .any, .any, .any, .any, .any, .any, .any, .any, .any, .any, .any, .any, .any, .any, .any, .any, .any, .any, .any, .any, .any, .any, .any, .any, .any, .any, .any, .any, .any, .any, .any, .any, .any, .any, .any, .any, .any, .any, .any, .any, .any, .any, .any, .any, .any, .any, .any, .any, .any, .any, .any, .any, .any, .any]
noncomputable abbrev s_triuneref07_text_b0 (n fl : Nat) : List DV → Heap → (Ex → KF) → R := execG ⟨Tryz.prog, callG Tryz.prog ENV n, ENV.md, fl, 108⟩ n (loopAt (bodyOf Tryz.f55) 0) []
noncomputable def s_triuneref07_text_B0 (n fl : Nat) (rec : DV → DV → DV → DV → Heap → R) (k : Ex → KF) (x2 x3 x9 x10 : DV) (H : Heap) : R :=
  bi (fieldD 3 1 x3) fun d0 =>
  bi (loadG false 1 d0 H) fun d1 =>
  bi (lenD d1) fun d2 =>
  bi (ltK .i64 x10 d2) fun d3 =>
  condR d3 (
  bi (fieldD 1 1 x2) fun d4 =>
  bi (loadG false 1 d4 H) fun d5 =>
  bi (addK .i64 d5 x10) fun d6 =>
  bi (cvK .u8 d6) fun d7 =>
  bi (fieldD 3 1 x3) fun d8 =>
  bi (loadG false 1 d8 H) fun d9 =>
  bi (idxSl 1 d9 x10) fun d10 =>
  bi (loadG false 1 d10 H) fun d11 =>
  bi (lenStr d11) fun d12 =>
  bi (cvK .u8 d12) fun d13 =>
  bi (buildL false 1 2 (I .u8 0) [(0, d7), (1, d13)]) fun d14 =>
  bi (appG 5 false 1 1 x9 d14 H fl) fun p15 =>
  bi (fieldD 3 1 x3) fun d16 =>
  bi (loadG false 1 d16 p15.2) fun d17 =>
  bi (idxSl 1 d17 x10) fun d18 =>
  bi (loadG false 1 d18 p15.2) fun d19 =>
  bi (convD Tryz.prog 9 41 d19) fun d20 =>
  bi (appG 5 false 1 1 p15.1 d20 p15.2 fl) fun p21 =>
  bi (addK .i64 x10 (I .i64 1)) fun d22 =>
  rec x2 x3 p21.1 d22 p21.2) (
  k (.exit 1) (s_triuneref07_text_O0 x9) H)
noncomputable def s_triuneref07_text_L0 (n fl : Nat) (k : Ex → KF) : Nat → DV → DV → DV → DV → Heap → R
  | 0, _, _, _, _, _ => none
  | m + 1, x2, x3, x9, x10, H => s_triuneref07_text_B0 n fl (s_triuneref07_text_L0 n fl k m) k x2 x3 x9 x10 H
theorem s_triuneref07_text_S0 (n fl m : Nat) (k : Ex → KF) (x2 x3 x9 x10 : DV) (H : Heap) : loopG [2, 3, 9, 10] [9] 108 (s_triuneref07_text_b0 n fl) (m + 1) (s_triuneref07_text_I0 x2 x3 x9 x10) H k = s_triuneref07_text_B0 n fl (fun x2 x3 x9 x10 H => loopG [2, 3, 9, 10] [9] 108 (s_triuneref07_text_b0 n fl) m (s_triuneref07_text_I0 x2 x3 x9 x10) H k) k x2 x3 x9 x10 H := by kernel_rfl
theorem s_triuneref07_text_L0_eq (n fl : Nat) (k : Ex → KF) : ∀ (m : Nat) (x2 x3 x9 x10 : DV) (H : Heap), loopG [2, 3, 9, 10] [9] 108 (s_triuneref07_text_b0 n fl) m (s_triuneref07_text_I0 x2 x3 x9 x10) H k = s_triuneref07_text_L0 n fl k m x2 x3 x9 x10 H := by
  intro m
  induction m with
  | zero => intros; rfl
  | succ m ih =>
    intro x2 x3 x9 x10 H
    rw [s_triuneref07_text_S0, show (fun x2 x3 x9 x10 H => loopG [2, 3, 9, 10] [9] 108 (s_triuneref07_text_b0 n fl) m (s_triuneref07_text_I0 x2 x3 x9 x10) H k) = s_triuneref07_text_L0 n fl k m from by funext x2 x3 x9 x10 H; exact ih _ _ _ _ _]
    rw [s_triuneref07_text_L0]
noncomputable def s_triuneref07_text (n : Nat) (H : Heap) (fl : Nat) (a0 a1 : DV) : R :=
  bi (allocG 58 a0 (List.length H) (H ++ [.hole, .hole])) fun h0 =>
  bi (allocG 51 a1 (List.length H + 1) h0) fun h1 =>
  bi (loadG false 1 (.ptr (List.length H + 1) 0) h1) fun d2 =>
  bi (gtK .i64 d2 (I .i64 0)) fun d3 =>
  condR d3 (
   bi (loadG false 1 (.ptr (List.length H) 0) h1) fun d4 =>
   bi (addK .i64 (I .i64 128) d4) fun d5 =>
   bi (cvK .u8 d5) fun d6 =>
   bi (loadG false 1 (.ptr (List.length H + 1) 0) h1) fun d7 =>
   bi (cvK .u8 d7) fun d8 =>
   bi (buildL false 1 2 (I .u8 0) [(0, d6), (1, d8)]) fun d9 =>
  some (d9, h1)) (
  bi (loadG true 8 (.ptr (List.length H) 0) h1) fun d10 =>
  bi (cP n 25 false [d10]) fun d11 =>
  bi (extD 0 d11) fun d12 =>
  bi (extD 1 d11) fun d13 =>
  bi (loadG false 1 (.ptr (List.length H) 0) h1) fun d14 =>
  bi (eqK .i64 d14 (I .i64 1)) fun d15 =>
  condR d15 (
  condR d15 (
   bi (loadG false 1 (.ptr (List.length H + 1) 1) h1) fun d16 =>
   bi (cP n 71 false [d16]) fun d17 =>
   bi (loadG false 1 (.ptr (List.length H) 0) h1) fun d18 =>
   bi (cvK .u8 d18) fun d19 =>
   bi (lenD d17) fun d20 =>
   bi (cvK .u8 d20) fun d21 =>
   bi (buildL false 1 2 (I .u8 0) [(0, d19), (1, d21)]) fun d22 =>
   bi (appG 5 false 1 1 d22 d17 h1 fl) fun p23 =>
  some (p23.1, p23.2)) (
   bi (eqK .i64 d14 (I .i64 3)) fun d24 =>
   condR d24 (
   condR d24 (
    bi (loadG false 1 (.ptr (List.length H + 1) 2) h1) fun d25 =>
    bi (cP n 70 false [d25]) fun d26 =>
    bi (loadG false 1 (.ptr (List.length H) 0) h1) fun d27 =>
    bi (cvK .u8 d27) fun d28 =>
    bi (lenD d26) fun d29 =>
    bi (cvK .u8 d29) fun d30 =>
    bi (buildL false 1 2 (I .u8 0) [(0, d28), (1, d30)]) fun d31 =>
    bi (appG 5 false 1 1 d31 d26 h1 fl) fun p32 =>
  some (p32.1, p32.2)) (
    bi (eqK .i64 d14 (I .i64 5)) fun d33 =>
    condR d33 (
    condR d33 (
  some (d12, h1)) (
     bi (eqK .i64 d14 (I .i64 15)) fun d34 =>
     condR d34 (
     condR d34 (
      bi (slX 1 d12 none (some (I .i64 5)) none) fun d35 =>
  some (d35, h1)) (
  bi (loadG false 1 (.ptr (List.length H) 2) h1) fun d36 =>
  bi (cvK .u8 d36) fun d37 =>
  bi (loadG false 1 (.ptr (List.length H + 1) 3) h1) fun d38 =>
  bi (lenD d38) fun d39 =>
  bi (cvK .u8 d39) fun d40 =>
  bi (buildL false 1 7 (I .u8 0) [(0, (I .u8 43)), (1, (I .u8 14)), (2, d37), (3, (I .u8 1)), (4, (I .u8 0)), (5, (I .u8 0)), (6, d40)]) fun d41 =>
  loopG [2, 3, 9, 10] [9] 108 (s_triuneref07_text_b0 n fl) n (s_triuneref07_text_I0 (.ptr (List.length H) 0) (.ptr (List.length H + 1) 0) d41 (I .i64 0)) h1 fun x S42 h42 => match x with
  | .normal => none
  | .exit i42 => (
  if i42 = 1 then (
  some ((S42.getD 9 .any), h42)) else (
  none))
  | .ret => (
  some (.any, h42)))) (
      bi (eqK .i64 d14 (I .i64 16)) fun d43 =>
     condR d43 (
      bi (slX 1 d12 none (some (I .i64 5)) none) fun d44 =>
  some (d44, h1)) (
  bi (loadG false 1 (.ptr (List.length H) 2) h1) fun d45 =>
  bi (cvK .u8 d45) fun d46 =>
  bi (loadG false 1 (.ptr (List.length H + 1) 3) h1) fun d47 =>
  bi (lenD d47) fun d48 =>
  bi (cvK .u8 d48) fun d49 =>
  bi (buildL false 1 7 (I .u8 0) [(0, (I .u8 43)), (1, (I .u8 14)), (2, d46), (3, (I .u8 1)), (4, (I .u8 0)), (5, (I .u8 0)), (6, d49)]) fun d50 =>
  loopG [2, 3, 9, 10] [9] 108 (s_triuneref07_text_b0 n fl) n (s_triuneref07_text_I0 (.ptr (List.length H) 0) (.ptr (List.length H + 1) 0) d50 (I .i64 0)) h1 fun x S51 h51 => match x with
  | .normal => none
  | .exit i51 => (
  if i51 = 1 then (
  some ((S51.getD 9 .any), h51)) else (
  none))
  | .ret => (
  some (.any, h51)))))) (
     bi (eqK .i64 d14 (I .i64 6)) fun d52 =>
     condR d52 (
    condR d52 (
  some (d12, h1)) (
     bi (eqK .i64 d14 (I .i64 15)) fun d53 =>
     condR d53 (
     condR d53 (
      bi (slX 1 d12 none (some (I .i64 5)) none) fun d54 =>
  some (d54, h1)) (
  bi (loadG false 1 (.ptr (List.length H) 2) h1) fun d55 =>
  bi (cvK .u8 d55) fun d56 =>
  bi (loadG false 1 (.ptr (List.length H + 1) 3) h1) fun d57 =>
  bi (lenD d57) fun d58 =>
  bi (cvK .u8 d58) fun d59 =>
  bi (buildL false 1 7 (I .u8 0) [(0, (I .u8 43)), (1, (I .u8 14)), (2, d56), (3, (I .u8 1)), (4, (I .u8 0)), (5, (I .u8 0)), (6, d59)]) fun d60 =>
  loopG [2, 3, 9, 10] [9] 108 (s_triuneref07_text_b0 n fl) n (s_triuneref07_text_I0 (.ptr (List.length H) 0) (.ptr (List.length H + 1) 0) d60 (I .i64 0)) h1 fun x S61 h61 => match x with
  | .normal => none
  | .exit i61 => (
  if i61 = 1 then (
  some ((S61.getD 9 .any), h61)) else (
  none))
  | .ret => (
  some (.any, h61)))) (
      bi (eqK .i64 d14 (I .i64 16)) fun d62 =>
     condR d62 (
      bi (slX 1 d12 none (some (I .i64 5)) none) fun d63 =>
  some (d63, h1)) (
  bi (loadG false 1 (.ptr (List.length H) 2) h1) fun d64 =>
  bi (cvK .u8 d64) fun d65 =>
  bi (loadG false 1 (.ptr (List.length H + 1) 3) h1) fun d66 =>
  bi (lenD d66) fun d67 =>
  bi (cvK .u8 d67) fun d68 =>
  bi (buildL false 1 7 (I .u8 0) [(0, (I .u8 43)), (1, (I .u8 14)), (2, d65), (3, (I .u8 1)), (4, (I .u8 0)), (5, (I .u8 0)), (6, d68)]) fun d69 =>
  loopG [2, 3, 9, 10] [9] 108 (s_triuneref07_text_b0 n fl) n (s_triuneref07_text_I0 (.ptr (List.length H) 0) (.ptr (List.length H + 1) 0) d69 (I .i64 0)) h1 fun x S70 h70 => match x with
  | .normal => none
  | .exit i70 => (
  if i70 = 1 then (
  some ((S70.getD 9 .any), h70)) else (
  none))
  | .ret => (
  some (.any, h70)))))) (
      bi (eqK .i64 d14 (I .i64 22)) fun d71 =>
    condR d71 (
  some (d12, h1)) (
     bi (eqK .i64 d14 (I .i64 15)) fun d72 =>
     condR d72 (
     condR d72 (
      bi (slX 1 d12 none (some (I .i64 5)) none) fun d73 =>
  some (d73, h1)) (
  bi (loadG false 1 (.ptr (List.length H) 2) h1) fun d74 =>
  bi (cvK .u8 d74) fun d75 =>
  bi (loadG false 1 (.ptr (List.length H + 1) 3) h1) fun d76 =>
  bi (lenD d76) fun d77 =>
  bi (cvK .u8 d77) fun d78 =>
  bi (buildL false 1 7 (I .u8 0) [(0, (I .u8 43)), (1, (I .u8 14)), (2, d75), (3, (I .u8 1)), (4, (I .u8 0)), (5, (I .u8 0)), (6, d78)]) fun d79 =>
  loopG [2, 3, 9, 10] [9] 108 (s_triuneref07_text_b0 n fl) n (s_triuneref07_text_I0 (.ptr (List.length H) 0) (.ptr (List.length H + 1) 0) d79 (I .i64 0)) h1 fun x S80 h80 => match x with
  | .normal => none
  | .exit i80 => (
  if i80 = 1 then (
  some ((S80.getD 9 .any), h80)) else (
  none))
  | .ret => (
  some (.any, h80)))) (
      bi (eqK .i64 d14 (I .i64 16)) fun d81 =>
     condR d81 (
      bi (slX 1 d12 none (some (I .i64 5)) none) fun d82 =>
  some (d82, h1)) (
  bi (loadG false 1 (.ptr (List.length H) 2) h1) fun d83 =>
  bi (cvK .u8 d83) fun d84 =>
  bi (loadG false 1 (.ptr (List.length H + 1) 3) h1) fun d85 =>
  bi (lenD d85) fun d86 =>
  bi (cvK .u8 d86) fun d87 =>
  bi (buildL false 1 7 (I .u8 0) [(0, (I .u8 43)), (1, (I .u8 14)), (2, d84), (3, (I .u8 1)), (4, (I .u8 0)), (5, (I .u8 0)), (6, d87)]) fun d88 =>
  loopG [2, 3, 9, 10] [9] 108 (s_triuneref07_text_b0 n fl) n (s_triuneref07_text_I0 (.ptr (List.length H) 0) (.ptr (List.length H + 1) 0) d88 (I .i64 0)) h1 fun x S89 h89 => match x with
  | .normal => none
  | .exit i89 => (
  if i89 = 1 then (
  some ((S89.getD 9 .any), h89)) else (
  none))
  | .ret => (
  some (.any, h89))))))))) (
    bi (eqK .i64 d14 (I .i64 4)) fun d90 =>
    condR d90 (
   condR d90 (
    bi (loadG false 1 (.ptr (List.length H + 1) 2) h1) fun d91 =>
    bi (cP n 70 false [d91]) fun d92 =>
    bi (loadG false 1 (.ptr (List.length H) 0) h1) fun d93 =>
    bi (cvK .u8 d93) fun d94 =>
    bi (lenD d92) fun d95 =>
    bi (cvK .u8 d95) fun d96 =>
    bi (buildL false 1 2 (I .u8 0) [(0, d94), (1, d96)]) fun d97 =>
    bi (appG 5 false 1 1 d97 d92 h1 fl) fun p98 =>
  some (p98.1, p98.2)) (
    bi (eqK .i64 d14 (I .i64 5)) fun d99 =>
    condR d99 (
    condR d99 (
  some (d12, h1)) (
     bi (eqK .i64 d14 (I .i64 15)) fun d100 =>
     condR d100 (
     condR d100 (
      bi (slX 1 d12 none (some (I .i64 5)) none) fun d101 =>
  some (d101, h1)) (
  bi (loadG false 1 (.ptr (List.length H) 2) h1) fun d102 =>
  bi (cvK .u8 d102) fun d103 =>
  bi (loadG false 1 (.ptr (List.length H + 1) 3) h1) fun d104 =>
  bi (lenD d104) fun d105 =>
  bi (cvK .u8 d105) fun d106 =>
  bi (buildL false 1 7 (I .u8 0) [(0, (I .u8 43)), (1, (I .u8 14)), (2, d103), (3, (I .u8 1)), (4, (I .u8 0)), (5, (I .u8 0)), (6, d106)]) fun d107 =>
  loopG [2, 3, 9, 10] [9] 108 (s_triuneref07_text_b0 n fl) n (s_triuneref07_text_I0 (.ptr (List.length H) 0) (.ptr (List.length H + 1) 0) d107 (I .i64 0)) h1 fun x S108 h108 => match x with
  | .normal => none
  | .exit i108 => (
  if i108 = 1 then (
  some ((S108.getD 9 .any), h108)) else (
  none))
  | .ret => (
  some (.any, h108)))) (
      bi (eqK .i64 d14 (I .i64 16)) fun d109 =>
     condR d109 (
      bi (slX 1 d12 none (some (I .i64 5)) none) fun d110 =>
  some (d110, h1)) (
  bi (loadG false 1 (.ptr (List.length H) 2) h1) fun d111 =>
  bi (cvK .u8 d111) fun d112 =>
  bi (loadG false 1 (.ptr (List.length H + 1) 3) h1) fun d113 =>
  bi (lenD d113) fun d114 =>
  bi (cvK .u8 d114) fun d115 =>
  bi (buildL false 1 7 (I .u8 0) [(0, (I .u8 43)), (1, (I .u8 14)), (2, d112), (3, (I .u8 1)), (4, (I .u8 0)), (5, (I .u8 0)), (6, d115)]) fun d116 =>
  loopG [2, 3, 9, 10] [9] 108 (s_triuneref07_text_b0 n fl) n (s_triuneref07_text_I0 (.ptr (List.length H) 0) (.ptr (List.length H + 1) 0) d116 (I .i64 0)) h1 fun x S117 h117 => match x with
  | .normal => none
  | .exit i117 => (
  if i117 = 1 then (
  some ((S117.getD 9 .any), h117)) else (
  none))
  | .ret => (
  some (.any, h117)))))) (
     bi (eqK .i64 d14 (I .i64 6)) fun d118 =>
     condR d118 (
    condR d118 (
  some (d12, h1)) (
     bi (eqK .i64 d14 (I .i64 15)) fun d119 =>
     condR d119 (
     condR d119 (
      bi (slX 1 d12 none (some (I .i64 5)) none) fun d120 =>
  some (d120, h1)) (
  bi (loadG false 1 (.ptr (List.length H) 2) h1) fun d121 =>
  bi (cvK .u8 d121) fun d122 =>
  bi (loadG false 1 (.ptr (List.length H + 1) 3) h1) fun d123 =>
  bi (lenD d123) fun d124 =>
  bi (cvK .u8 d124) fun d125 =>
  bi (buildL false 1 7 (I .u8 0) [(0, (I .u8 43)), (1, (I .u8 14)), (2, d122), (3, (I .u8 1)), (4, (I .u8 0)), (5, (I .u8 0)), (6, d125)]) fun d126 =>
  loopG [2, 3, 9, 10] [9] 108 (s_triuneref07_text_b0 n fl) n (s_triuneref07_text_I0 (.ptr (List.length H) 0) (.ptr (List.length H + 1) 0) d126 (I .i64 0)) h1 fun x S127 h127 => match x with
  | .normal => none
  | .exit i127 => (
  if i127 = 1 then (
  some ((S127.getD 9 .any), h127)) else (
  none))
  | .ret => (
  some (.any, h127)))) (
      bi (eqK .i64 d14 (I .i64 16)) fun d128 =>
     condR d128 (
      bi (slX 1 d12 none (some (I .i64 5)) none) fun d129 =>
  some (d129, h1)) (
  bi (loadG false 1 (.ptr (List.length H) 2) h1) fun d130 =>
  bi (cvK .u8 d130) fun d131 =>
  bi (loadG false 1 (.ptr (List.length H + 1) 3) h1) fun d132 =>
  bi (lenD d132) fun d133 =>
  bi (cvK .u8 d133) fun d134 =>
  bi (buildL false 1 7 (I .u8 0) [(0, (I .u8 43)), (1, (I .u8 14)), (2, d131), (3, (I .u8 1)), (4, (I .u8 0)), (5, (I .u8 0)), (6, d134)]) fun d135 =>
  loopG [2, 3, 9, 10] [9] 108 (s_triuneref07_text_b0 n fl) n (s_triuneref07_text_I0 (.ptr (List.length H) 0) (.ptr (List.length H + 1) 0) d135 (I .i64 0)) h1 fun x S136 h136 => match x with
  | .normal => none
  | .exit i136 => (
  if i136 = 1 then (
  some ((S136.getD 9 .any), h136)) else (
  none))
  | .ret => (
  some (.any, h136)))))) (
      bi (eqK .i64 d14 (I .i64 22)) fun d137 =>
    condR d137 (
  some (d12, h1)) (
     bi (eqK .i64 d14 (I .i64 15)) fun d138 =>
     condR d138 (
     condR d138 (
      bi (slX 1 d12 none (some (I .i64 5)) none) fun d139 =>
  some (d139, h1)) (
  bi (loadG false 1 (.ptr (List.length H) 2) h1) fun d140 =>
  bi (cvK .u8 d140) fun d141 =>
  bi (loadG false 1 (.ptr (List.length H + 1) 3) h1) fun d142 =>
  bi (lenD d142) fun d143 =>
  bi (cvK .u8 d143) fun d144 =>
  bi (buildL false 1 7 (I .u8 0) [(0, (I .u8 43)), (1, (I .u8 14)), (2, d141), (3, (I .u8 1)), (4, (I .u8 0)), (5, (I .u8 0)), (6, d144)]) fun d145 =>
  loopG [2, 3, 9, 10] [9] 108 (s_triuneref07_text_b0 n fl) n (s_triuneref07_text_I0 (.ptr (List.length H) 0) (.ptr (List.length H + 1) 0) d145 (I .i64 0)) h1 fun x S146 h146 => match x with
  | .normal => none
  | .exit i146 => (
  if i146 = 1 then (
  some ((S146.getD 9 .any), h146)) else (
  none))
  | .ret => (
  some (.any, h146)))) (
      bi (eqK .i64 d14 (I .i64 16)) fun d147 =>
     condR d147 (
      bi (slX 1 d12 none (some (I .i64 5)) none) fun d148 =>
  some (d148, h1)) (
  bi (loadG false 1 (.ptr (List.length H) 2) h1) fun d149 =>
  bi (cvK .u8 d149) fun d150 =>
  bi (loadG false 1 (.ptr (List.length H + 1) 3) h1) fun d151 =>
  bi (lenD d151) fun d152 =>
  bi (cvK .u8 d152) fun d153 =>
  bi (buildL false 1 7 (I .u8 0) [(0, (I .u8 43)), (1, (I .u8 14)), (2, d150), (3, (I .u8 1)), (4, (I .u8 0)), (5, (I .u8 0)), (6, d153)]) fun d154 =>
  loopG [2, 3, 9, 10] [9] 108 (s_triuneref07_text_b0 n fl) n (s_triuneref07_text_I0 (.ptr (List.length H) 0) (.ptr (List.length H + 1) 0) d154 (I .i64 0)) h1 fun x S155 h155 => match x with
  | .normal => none
  | .exit i155 => (
  if i155 = 1 then (
  some ((S155.getD 9 .any), h155)) else (
  none))
  | .ret => (
  some (.any, h155))))))))) (
     bi (eqK .i64 d14 (I .i64 23)) fun d156 =>
   condR d156 (
    bi (loadG false 1 (.ptr (List.length H + 1) 2) h1) fun d157 =>
    bi (cP n 70 false [d157]) fun d158 =>
    bi (loadG false 1 (.ptr (List.length H) 0) h1) fun d159 =>
    bi (cvK .u8 d159) fun d160 =>
    bi (lenD d158) fun d161 =>
    bi (cvK .u8 d161) fun d162 =>
    bi (buildL false 1 2 (I .u8 0) [(0, d160), (1, d162)]) fun d163 =>
    bi (appG 5 false 1 1 d163 d158 h1 fl) fun p164 =>
  some (p164.1, p164.2)) (
    bi (eqK .i64 d14 (I .i64 5)) fun d165 =>
    condR d165 (
    condR d165 (
  some (d12, h1)) (
     bi (eqK .i64 d14 (I .i64 15)) fun d166 =>
     condR d166 (
     condR d166 (
      bi (slX 1 d12 none (some (I .i64 5)) none) fun d167 =>
  some (d167, h1)) (
  bi (loadG false 1 (.ptr (List.length H) 2) h1) fun d168 =>
  bi (cvK .u8 d168) fun d169 =>
  bi (loadG false 1 (.ptr (List.length H + 1) 3) h1) fun d170 =>
  bi (lenD d170) fun d171 =>
  bi (cvK .u8 d171) fun d172 =>
  bi (buildL false 1 7 (I .u8 0) [(0, (I .u8 43)), (1, (I .u8 14)), (2, d169), (3, (I .u8 1)), (4, (I .u8 0)), (5, (I .u8 0)), (6, d172)]) fun d173 =>
  loopG [2, 3, 9, 10] [9] 108 (s_triuneref07_text_b0 n fl) n (s_triuneref07_text_I0 (.ptr (List.length H) 0) (.ptr (List.length H + 1) 0) d173 (I .i64 0)) h1 fun x S174 h174 => match x with
  | .normal => none
  | .exit i174 => (
  if i174 = 1 then (
  some ((S174.getD 9 .any), h174)) else (
  none))
  | .ret => (
  some (.any, h174)))) (
      bi (eqK .i64 d14 (I .i64 16)) fun d175 =>
     condR d175 (
      bi (slX 1 d12 none (some (I .i64 5)) none) fun d176 =>
  some (d176, h1)) (
  bi (loadG false 1 (.ptr (List.length H) 2) h1) fun d177 =>
  bi (cvK .u8 d177) fun d178 =>
  bi (loadG false 1 (.ptr (List.length H + 1) 3) h1) fun d179 =>
  bi (lenD d179) fun d180 =>
  bi (cvK .u8 d180) fun d181 =>
  bi (buildL false 1 7 (I .u8 0) [(0, (I .u8 43)), (1, (I .u8 14)), (2, d178), (3, (I .u8 1)), (4, (I .u8 0)), (5, (I .u8 0)), (6, d181)]) fun d182 =>
  loopG [2, 3, 9, 10] [9] 108 (s_triuneref07_text_b0 n fl) n (s_triuneref07_text_I0 (.ptr (List.length H) 0) (.ptr (List.length H + 1) 0) d182 (I .i64 0)) h1 fun x S183 h183 => match x with
  | .normal => none
  | .exit i183 => (
  if i183 = 1 then (
  some ((S183.getD 9 .any), h183)) else (
  none))
  | .ret => (
  some (.any, h183)))))) (
     bi (eqK .i64 d14 (I .i64 6)) fun d184 =>
     condR d184 (
    condR d184 (
  some (d12, h1)) (
     bi (eqK .i64 d14 (I .i64 15)) fun d185 =>
     condR d185 (
     condR d185 (
      bi (slX 1 d12 none (some (I .i64 5)) none) fun d186 =>
  some (d186, h1)) (
  bi (loadG false 1 (.ptr (List.length H) 2) h1) fun d187 =>
  bi (cvK .u8 d187) fun d188 =>
  bi (loadG false 1 (.ptr (List.length H + 1) 3) h1) fun d189 =>
  bi (lenD d189) fun d190 =>
  bi (cvK .u8 d190) fun d191 =>
  bi (buildL false 1 7 (I .u8 0) [(0, (I .u8 43)), (1, (I .u8 14)), (2, d188), (3, (I .u8 1)), (4, (I .u8 0)), (5, (I .u8 0)), (6, d191)]) fun d192 =>
  loopG [2, 3, 9, 10] [9] 108 (s_triuneref07_text_b0 n fl) n (s_triuneref07_text_I0 (.ptr (List.length H) 0) (.ptr (List.length H + 1) 0) d192 (I .i64 0)) h1 fun x S193 h193 => match x with
  | .normal => none
  | .exit i193 => (
  if i193 = 1 then (
  some ((S193.getD 9 .any), h193)) else (
  none))
  | .ret => (
  some (.any, h193)))) (
      bi (eqK .i64 d14 (I .i64 16)) fun d194 =>
     condR d194 (
      bi (slX 1 d12 none (some (I .i64 5)) none) fun d195 =>
  some (d195, h1)) (
  bi (loadG false 1 (.ptr (List.length H) 2) h1) fun d196 =>
  bi (cvK .u8 d196) fun d197 =>
  bi (loadG false 1 (.ptr (List.length H + 1) 3) h1) fun d198 =>
  bi (lenD d198) fun d199 =>
  bi (cvK .u8 d199) fun d200 =>
  bi (buildL false 1 7 (I .u8 0) [(0, (I .u8 43)), (1, (I .u8 14)), (2, d197), (3, (I .u8 1)), (4, (I .u8 0)), (5, (I .u8 0)), (6, d200)]) fun d201 =>
  loopG [2, 3, 9, 10] [9] 108 (s_triuneref07_text_b0 n fl) n (s_triuneref07_text_I0 (.ptr (List.length H) 0) (.ptr (List.length H + 1) 0) d201 (I .i64 0)) h1 fun x S202 h202 => match x with
  | .normal => none
  | .exit i202 => (
  if i202 = 1 then (
  some ((S202.getD 9 .any), h202)) else (
  none))
  | .ret => (
  some (.any, h202)))))) (
      bi (eqK .i64 d14 (I .i64 22)) fun d203 =>
    condR d203 (
  some (d12, h1)) (
     bi (eqK .i64 d14 (I .i64 15)) fun d204 =>
     condR d204 (
     condR d204 (
      bi (slX 1 d12 none (some (I .i64 5)) none) fun d205 =>
  some (d205, h1)) (
  bi (loadG false 1 (.ptr (List.length H) 2) h1) fun d206 =>
  bi (cvK .u8 d206) fun d207 =>
  bi (loadG false 1 (.ptr (List.length H + 1) 3) h1) fun d208 =>
  bi (lenD d208) fun d209 =>
  bi (cvK .u8 d209) fun d210 =>
  bi (buildL false 1 7 (I .u8 0) [(0, (I .u8 43)), (1, (I .u8 14)), (2, d207), (3, (I .u8 1)), (4, (I .u8 0)), (5, (I .u8 0)), (6, d210)]) fun d211 =>
  loopG [2, 3, 9, 10] [9] 108 (s_triuneref07_text_b0 n fl) n (s_triuneref07_text_I0 (.ptr (List.length H) 0) (.ptr (List.length H + 1) 0) d211 (I .i64 0)) h1 fun x S212 h212 => match x with
  | .normal => none
  | .exit i212 => (
  if i212 = 1 then (
  some ((S212.getD 9 .any), h212)) else (
  none))
  | .ret => (
  some (.any, h212)))) (
      bi (eqK .i64 d14 (I .i64 16)) fun d213 =>
     condR d213 (
      bi (slX 1 d12 none (some (I .i64 5)) none) fun d214 =>
  some (d214, h1)) (
  bi (loadG false 1 (.ptr (List.length H) 2) h1) fun d215 =>
  bi (cvK .u8 d215) fun d216 =>
  bi (loadG false 1 (.ptr (List.length H + 1) 3) h1) fun d217 =>
  bi (lenD d217) fun d218 =>
  bi (cvK .u8 d218) fun d219 =>
  bi (buildL false 1 7 (I .u8 0) [(0, (I .u8 43)), (1, (I .u8 14)), (2, d216), (3, (I .u8 1)), (4, (I .u8 0)), (5, (I .u8 0)), (6, d219)]) fun d220 =>
  loopG [2, 3, 9, 10] [9] 108 (s_triuneref07_text_b0 n fl) n (s_triuneref07_text_I0 (.ptr (List.length H) 0) (.ptr (List.length H + 1) 0) d220 (I .i64 0)) h1 fun x S221 h221 => match x with
  | .normal => none
  | .exit i221 => (
  if i221 = 1 then (
  some ((S221.getD 9 .any), h221)) else (
  none))
  | .ret => (
  some (.any, h221)))))))))))) (
   bi (eqK .i64 d14 (I .i64 2)) fun d222 =>
  condR d222 (
   bi (loadG false 1 (.ptr (List.length H + 1) 1) h1) fun d223 =>
   bi (cP n 71 false [d223]) fun d224 =>
   bi (loadG false 1 (.ptr (List.length H) 0) h1) fun d225 =>
   bi (cvK .u8 d225) fun d226 =>
   bi (lenD d224) fun d227 =>
   bi (cvK .u8 d227) fun d228 =>
   bi (buildL false 1 2 (I .u8 0) [(0, d226), (1, d228)]) fun d229 =>
   bi (appG 5 false 1 1 d229 d224 h1 fl) fun p230 =>
  some (p230.1, p230.2)) (
   bi (eqK .i64 d14 (I .i64 3)) fun d231 =>
   condR d231 (
   condR d231 (
    bi (loadG false 1 (.ptr (List.length H + 1) 2) h1) fun d232 =>
    bi (cP n 70 false [d232]) fun d233 =>
    bi (loadG false 1 (.ptr (List.length H) 0) h1) fun d234 =>
    bi (cvK .u8 d234) fun d235 =>
    bi (lenD d233) fun d236 =>
    bi (cvK .u8 d236) fun d237 =>
    bi (buildL false 1 2 (I .u8 0) [(0, d235), (1, d237)]) fun d238 =>
    bi (appG 5 false 1 1 d238 d233 h1 fl) fun p239 =>
  some (p239.1, p239.2)) (
    bi (eqK .i64 d14 (I .i64 5)) fun d240 =>
    condR d240 (
    condR d240 (
  some (d12, h1)) (
     bi (eqK .i64 d14 (I .i64 15)) fun d241 =>
     condR d241 (
     condR d241 (
      bi (slX 1 d12 none (some (I .i64 5)) none) fun d242 =>
  some (d242, h1)) (
  bi (loadG false 1 (.ptr (List.length H) 2) h1) fun d243 =>
  bi (cvK .u8 d243) fun d244 =>
  bi (loadG false 1 (.ptr (List.length H + 1) 3) h1) fun d245 =>
  bi (lenD d245) fun d246 =>
  bi (cvK .u8 d246) fun d247 =>
  bi (buildL false 1 7 (I .u8 0) [(0, (I .u8 43)), (1, (I .u8 14)), (2, d244), (3, (I .u8 1)), (4, (I .u8 0)), (5, (I .u8 0)), (6, d247)]) fun d248 =>
  loopG [2, 3, 9, 10] [9] 108 (s_triuneref07_text_b0 n fl) n (s_triuneref07_text_I0 (.ptr (List.length H) 0) (.ptr (List.length H + 1) 0) d248 (I .i64 0)) h1 fun x S249 h249 => match x with
  | .normal => none
  | .exit i249 => (
  if i249 = 1 then (
  some ((S249.getD 9 .any), h249)) else (
  none))
  | .ret => (
  some (.any, h249)))) (
      bi (eqK .i64 d14 (I .i64 16)) fun d250 =>
     condR d250 (
      bi (slX 1 d12 none (some (I .i64 5)) none) fun d251 =>
  some (d251, h1)) (
  bi (loadG false 1 (.ptr (List.length H) 2) h1) fun d252 =>
  bi (cvK .u8 d252) fun d253 =>
  bi (loadG false 1 (.ptr (List.length H + 1) 3) h1) fun d254 =>
  bi (lenD d254) fun d255 =>
  bi (cvK .u8 d255) fun d256 =>
  bi (buildL false 1 7 (I .u8 0) [(0, (I .u8 43)), (1, (I .u8 14)), (2, d253), (3, (I .u8 1)), (4, (I .u8 0)), (5, (I .u8 0)), (6, d256)]) fun d257 =>
  loopG [2, 3, 9, 10] [9] 108 (s_triuneref07_text_b0 n fl) n (s_triuneref07_text_I0 (.ptr (List.length H) 0) (.ptr (List.length H + 1) 0) d257 (I .i64 0)) h1 fun x S258 h258 => match x with
  | .normal => none
  | .exit i258 => (
  if i258 = 1 then (
  some ((S258.getD 9 .any), h258)) else (
  none))
  | .ret => (
  some (.any, h258)))))) (
     bi (eqK .i64 d14 (I .i64 6)) fun d259 =>
     condR d259 (
    condR d259 (
  some (d12, h1)) (
     bi (eqK .i64 d14 (I .i64 15)) fun d260 =>
     condR d260 (
     condR d260 (
      bi (slX 1 d12 none (some (I .i64 5)) none) fun d261 =>
  some (d261, h1)) (
  bi (loadG false 1 (.ptr (List.length H) 2) h1) fun d262 =>
  bi (cvK .u8 d262) fun d263 =>
  bi (loadG false 1 (.ptr (List.length H + 1) 3) h1) fun d264 =>
  bi (lenD d264) fun d265 =>
  bi (cvK .u8 d265) fun d266 =>
  bi (buildL false 1 7 (I .u8 0) [(0, (I .u8 43)), (1, (I .u8 14)), (2, d263), (3, (I .u8 1)), (4, (I .u8 0)), (5, (I .u8 0)), (6, d266)]) fun d267 =>
  loopG [2, 3, 9, 10] [9] 108 (s_triuneref07_text_b0 n fl) n (s_triuneref07_text_I0 (.ptr (List.length H) 0) (.ptr (List.length H + 1) 0) d267 (I .i64 0)) h1 fun x S268 h268 => match x with
  | .normal => none
  | .exit i268 => (
  if i268 = 1 then (
  some ((S268.getD 9 .any), h268)) else (
  none))
  | .ret => (
  some (.any, h268)))) (
      bi (eqK .i64 d14 (I .i64 16)) fun d269 =>
     condR d269 (
      bi (slX 1 d12 none (some (I .i64 5)) none) fun d270 =>
  some (d270, h1)) (
  bi (loadG false 1 (.ptr (List.length H) 2) h1) fun d271 =>
  bi (cvK .u8 d271) fun d272 =>
  bi (loadG false 1 (.ptr (List.length H + 1) 3) h1) fun d273 =>
  bi (lenD d273) fun d274 =>
  bi (cvK .u8 d274) fun d275 =>
  bi (buildL false 1 7 (I .u8 0) [(0, (I .u8 43)), (1, (I .u8 14)), (2, d272), (3, (I .u8 1)), (4, (I .u8 0)), (5, (I .u8 0)), (6, d275)]) fun d276 =>
  loopG [2, 3, 9, 10] [9] 108 (s_triuneref07_text_b0 n fl) n (s_triuneref07_text_I0 (.ptr (List.length H) 0) (.ptr (List.length H + 1) 0) d276 (I .i64 0)) h1 fun x S277 h277 => match x with
  | .normal => none
  | .exit i277 => (
  if i277 = 1 then (
  some ((S277.getD 9 .any), h277)) else (
  none))
  | .ret => (
  some (.any, h277)))))) (
      bi (eqK .i64 d14 (I .i64 22)) fun d278 =>
    condR d278 (
  some (d12, h1)) (
     bi (eqK .i64 d14 (I .i64 15)) fun d279 =>
     condR d279 (
     condR d279 (
      bi (slX 1 d12 none (some (I .i64 5)) none) fun d280 =>
  some (d280, h1)) (
  bi (loadG false 1 (.ptr (List.length H) 2) h1) fun d281 =>
  bi (cvK .u8 d281) fun d282 =>
  bi (loadG false 1 (.ptr (List.length H + 1) 3) h1) fun d283 =>
  bi (lenD d283) fun d284 =>
  bi (cvK .u8 d284) fun d285 =>
  bi (buildL false 1 7 (I .u8 0) [(0, (I .u8 43)), (1, (I .u8 14)), (2, d282), (3, (I .u8 1)), (4, (I .u8 0)), (5, (I .u8 0)), (6, d285)]) fun d286 =>
  loopG [2, 3, 9, 10] [9] 108 (s_triuneref07_text_b0 n fl) n (s_triuneref07_text_I0 (.ptr (List.length H) 0) (.ptr (List.length H + 1) 0) d286 (I .i64 0)) h1 fun x S287 h287 => match x with
  | .normal => none
  | .exit i287 => (
  if i287 = 1 then (
  some ((S287.getD 9 .any), h287)) else (
  none))
  | .ret => (
  some (.any, h287)))) (
      bi (eqK .i64 d14 (I .i64 16)) fun d288 =>
     condR d288 (
      bi (slX 1 d12 none (some (I .i64 5)) none) fun d289 =>
  some (d289, h1)) (
  bi (loadG false 1 (.ptr (List.length H) 2) h1) fun d290 =>
  bi (cvK .u8 d290) fun d291 =>
  bi (loadG false 1 (.ptr (List.length H + 1) 3) h1) fun d292 =>
  bi (lenD d292) fun d293 =>
  bi (cvK .u8 d293) fun d294 =>
  bi (buildL false 1 7 (I .u8 0) [(0, (I .u8 43)), (1, (I .u8 14)), (2, d291), (3, (I .u8 1)), (4, (I .u8 0)), (5, (I .u8 0)), (6, d294)]) fun d295 =>
  loopG [2, 3, 9, 10] [9] 108 (s_triuneref07_text_b0 n fl) n (s_triuneref07_text_I0 (.ptr (List.length H) 0) (.ptr (List.length H + 1) 0) d295 (I .i64 0)) h1 fun x S296 h296 => match x with
  | .normal => none
  | .exit i296 => (
  if i296 = 1 then (
  some ((S296.getD 9 .any), h296)) else (
  none))
  | .ret => (
  some (.any, h296))))))))) (
    bi (eqK .i64 d14 (I .i64 4)) fun d297 =>
    condR d297 (
   condR d297 (
    bi (loadG false 1 (.ptr (List.length H + 1) 2) h1) fun d298 =>
    bi (cP n 70 false [d298]) fun d299 =>
    bi (loadG false 1 (.ptr (List.length H) 0) h1) fun d300 =>
    bi (cvK .u8 d300) fun d301 =>
    bi (lenD d299) fun d302 =>
    bi (cvK .u8 d302) fun d303 =>
    bi (buildL false 1 2 (I .u8 0) [(0, d301), (1, d303)]) fun d304 =>
    bi (appG 5 false 1 1 d304 d299 h1 fl) fun p305 =>
  some (p305.1, p305.2)) (
    bi (eqK .i64 d14 (I .i64 5)) fun d306 =>
    condR d306 (
    condR d306 (
  some (d12, h1)) (
     bi (eqK .i64 d14 (I .i64 15)) fun d307 =>
     condR d307 (
     condR d307 (
      bi (slX 1 d12 none (some (I .i64 5)) none) fun d308 =>
  some (d308, h1)) (
  bi (loadG false 1 (.ptr (List.length H) 2) h1) fun d309 =>
  bi (cvK .u8 d309) fun d310 =>
  bi (loadG false 1 (.ptr (List.length H + 1) 3) h1) fun d311 =>
  bi (lenD d311) fun d312 =>
  bi (cvK .u8 d312) fun d313 =>
  bi (buildL false 1 7 (I .u8 0) [(0, (I .u8 43)), (1, (I .u8 14)), (2, d310), (3, (I .u8 1)), (4, (I .u8 0)), (5, (I .u8 0)), (6, d313)]) fun d314 =>
  loopG [2, 3, 9, 10] [9] 108 (s_triuneref07_text_b0 n fl) n (s_triuneref07_text_I0 (.ptr (List.length H) 0) (.ptr (List.length H + 1) 0) d314 (I .i64 0)) h1 fun x S315 h315 => match x with
  | .normal => none
  | .exit i315 => (
  if i315 = 1 then (
  some ((S315.getD 9 .any), h315)) else (
  none))
  | .ret => (
  some (.any, h315)))) (
      bi (eqK .i64 d14 (I .i64 16)) fun d316 =>
     condR d316 (
      bi (slX 1 d12 none (some (I .i64 5)) none) fun d317 =>
  some (d317, h1)) (
  bi (loadG false 1 (.ptr (List.length H) 2) h1) fun d318 =>
  bi (cvK .u8 d318) fun d319 =>
  bi (loadG false 1 (.ptr (List.length H + 1) 3) h1) fun d320 =>
  bi (lenD d320) fun d321 =>
  bi (cvK .u8 d321) fun d322 =>
  bi (buildL false 1 7 (I .u8 0) [(0, (I .u8 43)), (1, (I .u8 14)), (2, d319), (3, (I .u8 1)), (4, (I .u8 0)), (5, (I .u8 0)), (6, d322)]) fun d323 =>
  loopG [2, 3, 9, 10] [9] 108 (s_triuneref07_text_b0 n fl) n (s_triuneref07_text_I0 (.ptr (List.length H) 0) (.ptr (List.length H + 1) 0) d323 (I .i64 0)) h1 fun x S324 h324 => match x with
  | .normal => none
  | .exit i324 => (
  if i324 = 1 then (
  some ((S324.getD 9 .any), h324)) else (
  none))
  | .ret => (
  some (.any, h324)))))) (
     bi (eqK .i64 d14 (I .i64 6)) fun d325 =>
     condR d325 (
    condR d325 (
  some (d12, h1)) (
     bi (eqK .i64 d14 (I .i64 15)) fun d326 =>
     condR d326 (
     condR d326 (
      bi (slX 1 d12 none (some (I .i64 5)) none) fun d327 =>
  some (d327, h1)) (
  bi (loadG false 1 (.ptr (List.length H) 2) h1) fun d328 =>
  bi (cvK .u8 d328) fun d329 =>
  bi (loadG false 1 (.ptr (List.length H + 1) 3) h1) fun d330 =>
  bi (lenD d330) fun d331 =>
  bi (cvK .u8 d331) fun d332 =>
  bi (buildL false 1 7 (I .u8 0) [(0, (I .u8 43)), (1, (I .u8 14)), (2, d329), (3, (I .u8 1)), (4, (I .u8 0)), (5, (I .u8 0)), (6, d332)]) fun d333 =>
  loopG [2, 3, 9, 10] [9] 108 (s_triuneref07_text_b0 n fl) n (s_triuneref07_text_I0 (.ptr (List.length H) 0) (.ptr (List.length H + 1) 0) d333 (I .i64 0)) h1 fun x S334 h334 => match x with
  | .normal => none
  | .exit i334 => (
  if i334 = 1 then (
  some ((S334.getD 9 .any), h334)) else (
  none))
  | .ret => (
  some (.any, h334)))) (
      bi (eqK .i64 d14 (I .i64 16)) fun d335 =>
     condR d335 (
      bi (slX 1 d12 none (some (I .i64 5)) none) fun d336 =>
  some (d336, h1)) (
  bi (loadG false 1 (.ptr (List.length H) 2) h1) fun d337 =>
  bi (cvK .u8 d337) fun d338 =>
  bi (loadG false 1 (.ptr (List.length H + 1) 3) h1) fun d339 =>
  bi (lenD d339) fun d340 =>
  bi (cvK .u8 d340) fun d341 =>
  bi (buildL false 1 7 (I .u8 0) [(0, (I .u8 43)), (1, (I .u8 14)), (2, d338), (3, (I .u8 1)), (4, (I .u8 0)), (5, (I .u8 0)), (6, d341)]) fun d342 =>
  loopG [2, 3, 9, 10] [9] 108 (s_triuneref07_text_b0 n fl) n (s_triuneref07_text_I0 (.ptr (List.length H) 0) (.ptr (List.length H + 1) 0) d342 (I .i64 0)) h1 fun x S343 h343 => match x with
  | .normal => none
  | .exit i343 => (
  if i343 = 1 then (
  some ((S343.getD 9 .any), h343)) else (
  none))
  | .ret => (
  some (.any, h343)))))) (
      bi (eqK .i64 d14 (I .i64 22)) fun d344 =>
    condR d344 (
  some (d12, h1)) (
     bi (eqK .i64 d14 (I .i64 15)) fun d345 =>
     condR d345 (
     condR d345 (
      bi (slX 1 d12 none (some (I .i64 5)) none) fun d346 =>
  some (d346, h1)) (
  bi (loadG false 1 (.ptr (List.length H) 2) h1) fun d347 =>
  bi (cvK .u8 d347) fun d348 =>
  bi (loadG false 1 (.ptr (List.length H + 1) 3) h1) fun d349 =>
  bi (lenD d349) fun d350 =>
  bi (cvK .u8 d350) fun d351 =>
  bi (buildL false 1 7 (I .u8 0) [(0, (I .u8 43)), (1, (I .u8 14)), (2, d348), (3, (I .u8 1)), (4, (I .u8 0)), (5, (I .u8 0)), (6, d351)]) fun d352 =>
  loopG [2, 3, 9, 10] [9] 108 (s_triuneref07_text_b0 n fl) n (s_triuneref07_text_I0 (.ptr (List.length H) 0) (.ptr (List.length H + 1) 0) d352 (I .i64 0)) h1 fun x S353 h353 => match x with
  | .normal => none
  | .exit i353 => (
  if i353 = 1 then (
  some ((S353.getD 9 .any), h353)) else (
  none))
  | .ret => (
  some (.any, h353)))) (
      bi (eqK .i64 d14 (I .i64 16)) fun d354 =>
     condR d354 (
      bi (slX 1 d12 none (some (I .i64 5)) none) fun d355 =>
  some (d355, h1)) (
  bi (loadG false 1 (.ptr (List.length H) 2) h1) fun d356 =>
  bi (cvK .u8 d356) fun d357 =>
  bi (loadG false 1 (.ptr (List.length H + 1) 3) h1) fun d358 =>
  bi (lenD d358) fun d359 =>
  bi (cvK .u8 d359) fun d360 =>
  bi (buildL false 1 7 (I .u8 0) [(0, (I .u8 43)), (1, (I .u8 14)), (2, d357), (3, (I .u8 1)), (4, (I .u8 0)), (5, (I .u8 0)), (6, d360)]) fun d361 =>
  loopG [2, 3, 9, 10] [9] 108 (s_triuneref07_text_b0 n fl) n (s_triuneref07_text_I0 (.ptr (List.length H) 0) (.ptr (List.length H + 1) 0) d361 (I .i64 0)) h1 fun x S362 h362 => match x with
  | .normal => none
  | .exit i362 => (
  if i362 = 1 then (
  some ((S362.getD 9 .any), h362)) else (
  none))
  | .ret => (
  some (.any, h362))))))))) (
     bi (eqK .i64 d14 (I .i64 23)) fun d363 =>
   condR d363 (
    bi (loadG false 1 (.ptr (List.length H + 1) 2) h1) fun d364 =>
    bi (cP n 70 false [d364]) fun d365 =>
    bi (loadG false 1 (.ptr (List.length H) 0) h1) fun d366 =>
    bi (cvK .u8 d366) fun d367 =>
    bi (lenD d365) fun d368 =>
    bi (cvK .u8 d368) fun d369 =>
    bi (buildL false 1 2 (I .u8 0) [(0, d367), (1, d369)]) fun d370 =>
    bi (appG 5 false 1 1 d370 d365 h1 fl) fun p371 =>
  some (p371.1, p371.2)) (
    bi (eqK .i64 d14 (I .i64 5)) fun d372 =>
    condR d372 (
    condR d372 (
  some (d12, h1)) (
     bi (eqK .i64 d14 (I .i64 15)) fun d373 =>
     condR d373 (
     condR d373 (
      bi (slX 1 d12 none (some (I .i64 5)) none) fun d374 =>
  some (d374, h1)) (
  bi (loadG false 1 (.ptr (List.length H) 2) h1) fun d375 =>
  bi (cvK .u8 d375) fun d376 =>
  bi (loadG false 1 (.ptr (List.length H + 1) 3) h1) fun d377 =>
  bi (lenD d377) fun d378 =>
  bi (cvK .u8 d378) fun d379 =>
  bi (buildL false 1 7 (I .u8 0) [(0, (I .u8 43)), (1, (I .u8 14)), (2, d376), (3, (I .u8 1)), (4, (I .u8 0)), (5, (I .u8 0)), (6, d379)]) fun d380 =>
  loopG [2, 3, 9, 10] [9] 108 (s_triuneref07_text_b0 n fl) n (s_triuneref07_text_I0 (.ptr (List.length H) 0) (.ptr (List.length H + 1) 0) d380 (I .i64 0)) h1 fun x S381 h381 => match x with
  | .normal => none
  | .exit i381 => (
  if i381 = 1 then (
  some ((S381.getD 9 .any), h381)) else (
  none))
  | .ret => (
  some (.any, h381)))) (
      bi (eqK .i64 d14 (I .i64 16)) fun d382 =>
     condR d382 (
      bi (slX 1 d12 none (some (I .i64 5)) none) fun d383 =>
  some (d383, h1)) (
  bi (loadG false 1 (.ptr (List.length H) 2) h1) fun d384 =>
  bi (cvK .u8 d384) fun d385 =>
  bi (loadG false 1 (.ptr (List.length H + 1) 3) h1) fun d386 =>
  bi (lenD d386) fun d387 =>
  bi (cvK .u8 d387) fun d388 =>
  bi (buildL false 1 7 (I .u8 0) [(0, (I .u8 43)), (1, (I .u8 14)), (2, d385), (3, (I .u8 1)), (4, (I .u8 0)), (5, (I .u8 0)), (6, d388)]) fun d389 =>
  loopG [2, 3, 9, 10] [9] 108 (s_triuneref07_text_b0 n fl) n (s_triuneref07_text_I0 (.ptr (List.length H) 0) (.ptr (List.length H + 1) 0) d389 (I .i64 0)) h1 fun x S390 h390 => match x with
  | .normal => none
  | .exit i390 => (
  if i390 = 1 then (
  some ((S390.getD 9 .any), h390)) else (
  none))
  | .ret => (
  some (.any, h390)))))) (
     bi (eqK .i64 d14 (I .i64 6)) fun d391 =>
     condR d391 (
    condR d391 (
  some (d12, h1)) (
     bi (eqK .i64 d14 (I .i64 15)) fun d392 =>
     condR d392 (
     condR d392 (
      bi (slX 1 d12 none (some (I .i64 5)) none) fun d393 =>
  some (d393, h1)) (
  bi (loadG false 1 (.ptr (List.length H) 2) h1) fun d394 =>
  bi (cvK .u8 d394) fun d395 =>
  bi (loadG false 1 (.ptr (List.length H + 1) 3) h1) fun d396 =>
  bi (lenD d396) fun d397 =>
  bi (cvK .u8 d397) fun d398 =>
  bi (buildL false 1 7 (I .u8 0) [(0, (I .u8 43)), (1, (I .u8 14)), (2, d395), (3, (I .u8 1)), (4, (I .u8 0)), (5, (I .u8 0)), (6, d398)]) fun d399 =>
  loopG [2, 3, 9, 10] [9] 108 (s_triuneref07_text_b0 n fl) n (s_triuneref07_text_I0 (.ptr (List.length H) 0) (.ptr (List.length H + 1) 0) d399 (I .i64 0)) h1 fun x S400 h400 => match x with
  | .normal => none
  | .exit i400 => (
  if i400 = 1 then (
  some ((S400.getD 9 .any), h400)) else (
  none))
  | .ret => (
  some (.any, h400)))) (
      bi (eqK .i64 d14 (I .i64 16)) fun d401 =>
     condR d401 (
      bi (slX 1 d12 none (some (I .i64 5)) none) fun d402 =>
  some (d402, h1)) (
  bi (loadG false 1 (.ptr (List.length H) 2) h1) fun d403 =>
  bi (cvK .u8 d403) fun d404 =>
  bi (loadG false 1 (.ptr (List.length H + 1) 3) h1) fun d405 =>
  bi (lenD d405) fun d406 =>
  bi (cvK .u8 d406) fun d407 =>
  bi (buildL false 1 7 (I .u8 0) [(0, (I .u8 43)), (1, (I .u8 14)), (2, d404), (3, (I .u8 1)), (4, (I .u8 0)), (5, (I .u8 0)), (6, d407)]) fun d408 =>
  loopG [2, 3, 9, 10] [9] 108 (s_triuneref07_text_b0 n fl) n (s_triuneref07_text_I0 (.ptr (List.length H) 0) (.ptr (List.length H + 1) 0) d408 (I .i64 0)) h1 fun x S409 h409 => match x with
  | .normal => none
  | .exit i409 => (
  if i409 = 1 then (
  some ((S409.getD 9 .any), h409)) else (
  none))
  | .ret => (
  some (.any, h409)))))) (
      bi (eqK .i64 d14 (I .i64 22)) fun d410 =>
    condR d410 (
  some (d12, h1)) (
     bi (eqK .i64 d14 (I .i64 15)) fun d411 =>
     condR d411 (
     condR d411 (
      bi (slX 1 d12 none (some (I .i64 5)) none) fun d412 =>
  some (d412, h1)) (
  bi (loadG false 1 (.ptr (List.length H) 2) h1) fun d413 =>
  bi (cvK .u8 d413) fun d414 =>
  bi (loadG false 1 (.ptr (List.length H + 1) 3) h1) fun d415 =>
  bi (lenD d415) fun d416 =>
  bi (cvK .u8 d416) fun d417 =>
  bi (buildL false 1 7 (I .u8 0) [(0, (I .u8 43)), (1, (I .u8 14)), (2, d414), (3, (I .u8 1)), (4, (I .u8 0)), (5, (I .u8 0)), (6, d417)]) fun d418 =>
  loopG [2, 3, 9, 10] [9] 108 (s_triuneref07_text_b0 n fl) n (s_triuneref07_text_I0 (.ptr (List.length H) 0) (.ptr (List.length H + 1) 0) d418 (I .i64 0)) h1 fun x S419 h419 => match x with
  | .normal => none
  | .exit i419 => (
  if i419 = 1 then (
  some ((S419.getD 9 .any), h419)) else (
  none))
  | .ret => (
  some (.any, h419)))) (
      bi (eqK .i64 d14 (I .i64 16)) fun d420 =>
     condR d420 (
      bi (slX 1 d12 none (some (I .i64 5)) none) fun d421 =>
  some (d421, h1)) (
  bi (loadG false 1 (.ptr (List.length H) 2) h1) fun d422 =>
  bi (cvK .u8 d422) fun d423 =>
  bi (loadG false 1 (.ptr (List.length H + 1) 3) h1) fun d424 =>
  bi (lenD d424) fun d425 =>
  bi (cvK .u8 d425) fun d426 =>
  bi (buildL false 1 7 (I .u8 0) [(0, (I .u8 43)), (1, (I .u8 14)), (2, d423), (3, (I .u8 1)), (4, (I .u8 0)), (5, (I .u8 0)), (6, d426)]) fun d427 =>
  loopG [2, 3, 9, 10] [9] 108 (s_triuneref07_text_b0 n fl) n (s_triuneref07_text_I0 (.ptr (List.length H) 0) (.ptr (List.length H + 1) 0) d427 (I .i64 0)) h1 fun x S428 h428 => match x with
  | .normal => none
  | .exit i428 => (
  if i428 = 1 then (
  some ((S428.getD 9 .any), h428)) else (
  none))
  | .ret => (
  some (.any, h428)))))))))))))
theorem s_triuneref07_text_eq (n : Nat) (H : Heap) (fl : Nat) (a0 a1 : DV) : callG Tryz.prog ENV (n + 1) 55 [a0, a1] H fl = s_triuneref07_text n H fl a0 a1 := by kernel_rfl
end Go.Proofs.YtcpgmbpndpcmdaaGreat
namespace Go.Proofs.YtcpgmbpndpcmdaaGreat
open Go
set_option linter.unusedSimpArgs false
set_option linter.unusedVariables false
set_option maxRecDepth 100000
theorem t7_L (n fl : Nat) (e0 e1 : TypeId) (cs : List DV) (d0 d1 d2 : DV) (addr : Int) (ha : 0 ≤ addr ∧ addr ≤ 65535) (l : List ByteArray) (hs : ∀ s ∈ l, s.size ≤ 245) (hl : l.length ≤ 300) (hcs : cs[1]? = some (I .i64 addr)) (hfl : fl ≤ 2) : ∀ (m i : Nat) (acc : List Int) (tg : Tag) (H : Heap),
    l.length < m + i → i ≤ l.length → acc.length ≤ 10 + 250 * i → TgOk tg 5 1 2 acc.length H → 2 ≤ H.length → H[0]? = some (.cells e0 cs) → H[1]? = some (.cells e1 [d0, d1, d2, LV 1 Sg l .sh]) →
    ∃ t' H', ∀ K, s_triuneref07_text_L0 n fl K m (.ptr 0 0) (.ptr 1 0) (LV 1 (I .u8) acc tg) (I .i64 i) H = K (.exit 1) (s_triuneref07_text_O0 (LV 1 (I .u8) (acc ++ nmI addr i (l.drop i)) t')) H' := by
  intro m
  induction m with
  | zero => intro i acc tg H h; omega
  | succ m ih =>
    intro i acc tg H hm hi hacc ht hH h0 h1
    by_cases h : i < l.length
    · have hz := hs _ (List.getElem_mem h)
      have hzl := strI_len l[i]
      have v1 := buildL_v2 ((addr + (i : Int)) % 256) ((l[i].size : Int) % 256)
      have w1 : IntKind.wrap .u8 (addr + (i : Int)) = (addr + (i : Int)) % 256 := rfl
      have w2 : IntKind.wrap .u8 (l[i].size : Int) = (l[i].size : Int) % 256 := rfl
      have hls : lenStr (Sg l[i]) = some (I .i64 (l[i].size : Int)) := rfl
      have hcv := conv_str l[i] (by omega)
      obtain ⟨t2, H2, ha2, ht2, hH2, hj2, _⟩ := appG_all (e := 5) (ag := false) (sz := 1) (by_ := 1) (n0 := 2) (enc := I .u8) (xs := acc) (ys := [(addr + (i : Int)) % 256, (l[i].size : Int) % 256]) (t := tg) (t' := .ti) (H := H) (fl := fl) hfl hH ht rfl (by simp; omega) (by simp; omega)
      obtain ⟨t3, H3, ha3, ht3, hH3, hj3, _⟩ := appG_all (e := 5) (ag := false) (sz := 1) (by_ := 1) (n0 := 2) (enc := I .u8) (xs := acc ++ [(addr + (i : Int)) % 256, (l[i].size : Int) % 256]) (ys := strI l[i]) (t := t2) (t' := .sh) (H := H2) (fl := fl) hfl (by omega) ht2 rfl (by simp; omega) (by simp; omega)
      have h12 : H2[1]? = some (.cells e1 [d0, d1, d2, LV 1 Sg l .sh]) := by rw [hj2 1 (by omega)]; exact h1
      have h03 : H3[0]? = some (.cells e0 cs) := by rw [hj3 0 (by omega), hj2 0 (by omega)]; exact h0
      have h13 : H3[1]? = some (.cells e1 [d0, d1, d2, LV 1 Sg l .sh]) := by rw [hj3 1 (by omega)]; exact h12
      obtain ⟨t', H', hK⟩ := ih (i + 1) _ t3 H3 (by omega) (by omega) (by simp; omega) ht3 (by omega) h03 h13
      have hi2 : ((i + 1 : Nat) : Int) = (i : Int) + 1 := by omega
      rw [hi2] at hK
      refine ⟨t', H', fun K => ?_⟩
      rw [List.drop_eq_getElem_cons h]
      have hK := hK K
      simp only [List.append_assoc, List.cons_append, List.nil_append] at hK
      unfold s_triuneref07_text_L0 s_triuneref07_text_B0
      have e2 : acc ++ nmI addr i (l[i] :: l.drop (i + 1)) = acc ++ [(addr + (i : Int)) % 256, (l[i].size : Int) % 256] ++ strI l[i] ++ nmI addr (i + 1) (l.drop (i + 1)) := by simp [nmI, cntI, hzl]
      rw [e2]
      obtain ⟨g0, g1⟩ := ha
      simp -implicitDefEqProofs (disch := first | omega | (simp only [List.length_set, List.length_append, List.length_cons, List.length_nil, List.length_take, List.length_drop, List.length_map]; omega) | simp) [wrap_i64, wrap_u16_id, wrap_u8_id, tdiv_pos, tmod_pos, -getElem?_pos, -getElem?_neg, -List.length_eq_zero_iff, -List.getElem_cons_drop, h, h0, h1, h12, hcs, v1, w1, w2, hls, hcv, ha2, ha3, hK]
    · have : i = l.length := by omega
      subst this
      refine ⟨tg, H, fun K => ?_⟩
      unfold s_triuneref07_text_L0 s_triuneref07_text_B0
      rw [List.drop_length]
      simp -implicitDefEqProofs (disch := first | omega | (simp only [List.length_set, List.length_append, List.length_cons, List.length_nil, List.length_take, List.length_drop, List.length_map]; omega) | simp) [wrap_i64, wrap_u16_id, wrap_u8_id, tdiv_pos, tmod_pos, -getElem?_pos, -getElem?_neg, -List.length_eq_zero_iff, -List.getElem_cons_drop, h1, nmI]
theorem buildL_v7 (a b : Int) : buildL false 1 7 (I .u8 0) [(0, I .u8 43), (1, I .u8 14), (2, I .u8 a), (3, I .u8 1), (4, I .u8 0), (5, I .u8 0), (6, I .u8 b)] = some (LV 1 (I .u8) [43, 14, a, 1, 0, 0, b] .ti) := by kernel_rfl
theorem ref07_text_c (n : Nat) (hn : 1200 ≤ n) (a : Rq) (oa : RqOk a) (x : An) (ok : AnOk x) (hv : ansV a x = true) (t1 t2 t3 t4 t5 : Tag) : cP n 55 false [rqE a t1 t2, anE x t3 t4 t5] = some (LV 1 (I .u8) (ansTextV a x) .sh) := by
  obtain ⟨n, rfl⟩ : ∃ m, n = m + 1 := ⟨n - 1, by omega⟩
  have k1 := ref06_Bytes_c n (by omega) a oa .sh .sh
  obtain ⟨h0, h1, h2, h3, h4, h5⟩ := ansV_open hv
  rw [if_pos h0] at k1
  have hcode := code_le h0
  have hle := formed_le a h0.1
  have hc : isV a.code = true := h0.1.1
  have ht5 := text_five a h0.1
  have fin : ∀ B, (∃ H', s_triuneref07_text n [] 0 (rqE a .sh .sh) (anE x .sh .sh .sh) = some (B, H')) → (∀ H', outD false H' B = some (LV 1 (I .u8) (ansTextV a x) .sh)) → cP (n + 1) 55 false [rqE a t1 t2, anE x t3 t4 t5] = some (LV 1 (I .u8) (ansTextV a x) .sh) := by
    rintro B ⟨H', h1⟩ h2
    exact cP_of (r := B) (args' := [rqE a .sh .sh, anE x .sh .sh .sh]) (by simp [argEl_eq, rqE, anE]) ((s_triuneref07_text_eq _ _ _ _ _).trans h1) (h2 H')
  have hsh := fun H (l : List Int) => outD_LV false H 1 (I .u8) l
  by_cases hx : 0 < x.exc
  · have e : ansTextV a x = [a.code + 128, x.exc] := by unfold ansTextV; rw [if_pos hx]
    have w1 : IntKind.wrap .u8 (128 + a.code) = a.code + 128 := by rw [wrap_u8]; omega
    have w2 : IntKind.wrap .u8 x.exc = x.exc := by rw [wrap_u8]; omega
    have v := buildL_v2 (a.code + 128) x.exc
    refine fin (LV 1 (I .u8) [a.code + 128, x.exc] .ti) ⟨_, by unfold s_triuneref07_text rqE anE; simp -implicitDefEqProofs (disch := first | omega | (simp only [List.length_set, List.length_append, List.length_cons, List.length_nil, List.length_take, List.length_drop, List.length_map]; omega) | simp) [wrap_i64, wrap_u16_id, wrap_u8_id, tdiv_pos, tmod_pos, -getElem?_pos, -getElem?_neg, -List.length_eq_zero_iff, -List.getElem_cons_drop, hx, w1, w2, v]; rfl⟩ (fun H' => by rw [e]; simp)
  have hz : x.exc = 0 := by omega
  have hw := wbI_length x.words
  have hp := pkI_length x.bits
  have f1 := fun (h : x.words.length ≤ 1000) => ref02_Bytes_c n x.words .sh (by omega) ok.w (by omega)
  have f2 := fun (h : x.bits.length ≤ 3000) => ref02_Pack_c n x.bits .sh (by omega) (by omega)
  have tx : ansTextV a x = if rdBits a.code = true then a.code :: cntI (pkI x.bits) else if rdWords a.code = true then a.code :: cntI (wbI x.words) else if rdTexts a.code = true then a.code :: namedV a x.texts else if a.code = 22 then textV a else (textV a).take 5 := by
    unfold ansTextV
    rw [if_neg hx]
  have sh := text_shape a h0.1
  obtain ⟨T, hT⟩ : ∃ T, T = textV a := ⟨_, rfl⟩
  rw [← hT] at k1 tx ht5 sh
  have hapB : ∀ (ys : List Int) (b0 b1 : DBlk), ys.length ≤ 1000 → ∃ t2 H', appG 5 false 1 1 (LV 1 (I .u8) [a.code, (ys.length : Int) % 256] .ti) (LV 1 (I .u8) ys .sh) [b0, b1] 0 = some (LV 1 (I .u8) (a.code :: cntI ys) t2, H') := by
    intro ys b0 b1 hy
    obtain ⟨t2, H', ha, _⟩ := appG_all (e := 5) (ag := false) (sz := 1) (by_ := 1) (n0 := 0) (enc := I .u8) (xs := [a.code, (ys.length : Int) % 256]) (ys := ys) (t := .ti) (t' := .sh) (H := [b0, b1]) (fl := 0) (by omega) (by simp) (.inl rfl) rfl (by simp; omega) (by simp; omega)
    exact ⟨t2, H', ha⟩
  have v2 := fun y => buildL_v2 a.code y
  have wc : IntKind.wrap .u8 a.code = a.code := by rw [wrap_u8]; omega
  have wl : ∀ y : Nat, IntKind.wrap .u8 (y : Int) = (y : Int) % 256 := fun y => rfl
  by_cases c1 : rdBits a.code = true
  · rw [if_pos c1] at tx
    rw [if_pos ⟨c1, hz⟩] at h3
    have f2 := f2 (by omega)
    obtain ⟨t2', H', hap⟩ := hapB (pkI x.bits) (.cells 58 [I .i64 a.code, I .i64 a.addr, I .i64 a.cnt, I .i64 a.to_, LV 1 (I .u16) a.words .sh, LV 1 Bo a.bits .sh, I .u16 a.and_, I .u16 a.or_]) (.cells 51 [I .i64 x.exc, LV 1 Bo x.bits .sh, LV 1 (I .u16) x.words .sh, LV 1 Sg x.texts .sh]) (by omega)
    have v2 := v2 (((pkI x.bits).length : Int) % 256)
    refine fin (LV 1 (I .u8) (a.code :: cntI (pkI x.bits)) t2') ⟨H', ?_⟩ (fun H' => by rw [tx]; simp)
    unfold rdBits at c1
    have c1 := of_decide_eq_true c1
    unfold s_triuneref07_text rqE anE at *
    rw [hz] at *
    rcases c1 with c1 | c1
    · have u1 : decide (a.code = 1) = true := decide_eq_true c1
      simp -implicitDefEqProofs (disch := first | omega | (simp only [List.length_set, List.length_append, List.length_cons, List.length_nil, List.length_take, List.length_drop, List.length_map]; omega) | simp) [wrap_i64, wrap_u16_id, wrap_u8_id, tdiv_pos, tmod_pos, -getElem?_pos, -getElem?_neg, -List.length_eq_zero_iff, -List.getElem_cons_drop, k1, u1, hx, f2, v2, wc, wl, hap]
    · have u1 : decide (a.code = 1) = false := decide_eq_false (by omega)
      have u2 : decide (a.code = 2) = true := decide_eq_true c1
      simp -implicitDefEqProofs (disch := first | omega | (simp only [List.length_set, List.length_append, List.length_cons, List.length_nil, List.length_take, List.length_drop, List.length_map]; omega) | simp) [wrap_i64, wrap_u16_id, wrap_u8_id, tdiv_pos, tmod_pos, -getElem?_pos, -getElem?_neg, -List.length_eq_zero_iff, -List.getElem_cons_drop, k1, u1, u2, hx, f2, v2, wc, wl, hap]
  rw [if_neg c1] at tx
  by_cases c2 : rdWords a.code = true
  · rw [if_pos c2] at tx
    rw [if_pos ⟨c2, hz⟩] at h4
    have f1 := f1 (by have := fit_pos h0.1.2.1 (cntV_le _).1; have : cntV a.code ≤ 2000 := (cntV_le _).2; unfold rdWords at c2; have c2 := of_decide_eq_true c2; have : cntV a.code = 125 := by { unfold cntV; rw [if_neg (by omega), if_pos c2] }; omega)
    have hwl : (wbI x.words).length ≤ 1000 := by
      have := fit_pos h0.1.2.1 (cntV_le _).1
      unfold rdWords at c2
      have c2 := of_decide_eq_true c2
      have : cntV a.code = 125 := by unfold cntV; rw [if_neg (by omega), if_pos c2]
      omega
    obtain ⟨t2', H', hap⟩ := hapB (wbI x.words) (.cells 58 [I .i64 a.code, I .i64 a.addr, I .i64 a.cnt, I .i64 a.to_, LV 1 (I .u16) a.words .sh, LV 1 Bo a.bits .sh, I .u16 a.and_, I .u16 a.or_]) (.cells 51 [I .i64 x.exc, LV 1 Bo x.bits .sh, LV 1 (I .u16) x.words .sh, LV 1 Sg x.texts .sh]) hwl
    have v2 := v2 (((wbI x.words).length : Int) % 256)
    refine fin (LV 1 (I .u8) (a.code :: cntI (wbI x.words)) t2') ⟨H', ?_⟩ (fun H' => by rw [tx]; simp)
    unfold rdWords at c2
    have c2 := of_decide_eq_true c2
    have u1 : decide (a.code = 1) = false := decide_eq_false (by omega)
    have u2 : decide (a.code = 2) = false := decide_eq_false (by omega)
    unfold s_triuneref07_text rqE anE at *
    rw [hz] at *
    rcases c2 with c2 | c2 | c2
    · have u3 : decide (a.code = 3) = true := decide_eq_true c2
      simp -implicitDefEqProofs (disch := first | omega | (simp only [List.length_set, List.length_append, List.length_cons, List.length_nil, List.length_take, List.length_drop, List.length_map]; omega) | simp) [wrap_i64, wrap_u16_id, wrap_u8_id, tdiv_pos, tmod_pos, -getElem?_pos, -getElem?_neg, -List.length_eq_zero_iff, -List.getElem_cons_drop, k1, u1, u2, u3, hx, f1, v2, wc, wl, hap]
    · have u3 : decide (a.code = 3) = false := decide_eq_false (by omega)
      have u4 : decide (a.code = 4) = true := decide_eq_true c2
      simp -implicitDefEqProofs (disch := first | omega | (simp only [List.length_set, List.length_append, List.length_cons, List.length_nil, List.length_take, List.length_drop, List.length_map]; omega) | simp) [wrap_i64, wrap_u16_id, wrap_u8_id, tdiv_pos, tmod_pos, -getElem?_pos, -getElem?_neg, -List.length_eq_zero_iff, -List.getElem_cons_drop, k1, u1, u2, u3, u4, hx, f1, v2, wc, wl, hap]
    · have u3 : decide (a.code = 3) = false := decide_eq_false (by omega)
      have u4 : decide (a.code = 4) = false := decide_eq_false (by omega)
      have u5 : decide (a.code = 23) = true := decide_eq_true c2
      simp -implicitDefEqProofs (disch := first | omega | (simp only [List.length_set, List.length_append, List.length_cons, List.length_nil, List.length_take, List.length_drop, List.length_map]; omega) | simp) [wrap_i64, wrap_u16_id, wrap_u8_id, tdiv_pos, tmod_pos, -getElem?_pos, -getElem?_neg, -List.length_eq_zero_iff, -List.getElem_cons_drop, k1, u1, u2, u3, u4, u5, hx, f1, v2, wc, wl, hap]
  rw [if_neg c2] at tx
  have d1 : a.code ≠ 1 ∧ a.code ≠ 2 := by unfold rdBits at c1; simp only [decide_eq_true_eq] at c1; omega
  have d2 : a.code ≠ 3 ∧ a.code ≠ 4 ∧ a.code ≠ 23 := by unfold rdWords at c2; simp only [decide_eq_true_eq] at c2; omega
  have u1 : decide (a.code = 1) = false := decide_eq_false d1.1
  have u2 : decide (a.code = 2) = false := decide_eq_false d1.2
  have u3 : decide (a.code = 3) = false := decide_eq_false d2.1
  have u4 : decide (a.code = 4) = false := decide_eq_false d2.2.1
  have u5 : decide (a.code = 23) = false := decide_eq_false d2.2.2
  by_cases c3 : rdTexts a.code = true
  · rw [if_pos c3] at tx
    rw [if_pos ⟨c3, hz⟩] at h5
    obtain ⟨g1, g2, g3, _⟩ := fitA_open h5
    have c43 : a.code = 43 := by unfold rdTexts at c3; exact of_decide_eq_true c3
    obtain ⟨t', H', hK⟩ := t7_L n 0 58 51 [I .i64 a.code, I .i64 a.addr, I .i64 a.cnt, I .i64 a.to_, LV 1 (I .u16) a.words .sh, LV 1 Bo a.bits .sh, I .u16 a.and_, I .u16 a.or_] (I .i64 0) (LV 1 Bo x.bits .sh) (LV 1 (I .u16) x.words .sh) a.addr (by omega) x.texts g1 (by omega) rfl (by omega) n 0 [43, 14, a.cnt % 256, 1, 0, 0, (x.texts.length : Int) % 256] .ti
      [.cells 58 [I .i64 a.code, I .i64 a.addr, I .i64 a.cnt, I .i64 a.to_, LV 1 (I .u16) a.words .sh, LV 1 Bo a.bits .sh, I .u16 a.and_, I .u16 a.or_], .cells 51 [I .i64 0, LV 1 Bo x.bits .sh, LV 1 (I .u16) x.words .sh, LV 1 Sg x.texts .sh]] (by omega) (by omega) (by simp) (.inl rfl) (by simp) rfl rfl
    have q := fun K => (s_triuneref07_text_L0_eq n 0 K n (.ptr 0 0) (.ptr 1 0) (LV 1 (I .u8) [43, 14, a.cnt % 256, 1, 0, 0, (x.texts.length : Int) % 256] .ti) (I .i64 0) [.cells 58 [I .i64 a.code, I .i64 a.addr, I .i64 a.cnt, I .i64 a.to_, LV 1 (I .u16) a.words .sh, LV 1 Bo a.bits .sh, I .u16 a.and_, I .u16 a.or_], .cells 51 [I .i64 0, LV 1 Bo x.bits .sh, LV 1 (I .u16) x.words .sh, LV 1 Sg x.texts .sh]]).trans (hK K)
    rw [List.drop_zero] at q
    have v7 := buildL_v7 (a.cnt % 256) ((x.texts.length : Int) % 256)
    have wk : IntKind.wrap .u8 a.cnt = a.cnt % 256 := rfl
    have u6 : decide (a.code = 5) = false := decide_eq_false (by omega)
    have u7 : decide (a.code = 6) = false := decide_eq_false (by omega)
    have u8 : decide (a.code = 22) = false := decide_eq_false (by omega)
    have u9 : decide (a.code = 15) = false := decide_eq_false (by omega)
    have u10 : decide (a.code = 16) = false := decide_eq_false (by omega)
    refine fin (LV 1 (I .u8) ([43, 14, a.cnt % 256, 1, 0, 0, (x.texts.length : Int) % 256] ++ nmI a.addr 0 x.texts) t') ⟨H', ?_⟩ (fun H' => by rw [tx, c43]; simp [namedV])
    unfold s_triuneref07_text rqE anE at *
    rw [hz]
    simp -implicitDefEqProofs (disch := first | omega | (simp only [List.length_set, List.length_append, List.length_cons, List.length_nil, List.length_take, List.length_drop, List.length_map]; omega) | simp) [wrap_i64, wrap_u16_id, wrap_u8_id, tdiv_pos, tmod_pos, -getElem?_pos, -getElem?_neg, -List.length_eq_zero_iff, -List.getElem_cons_drop, k1, u1, u2, u3, u4, u5, u6, u7, u8, u9, u10, hx, v7, wk, wl, q, s_triuneref07_text_O0]
  rw [if_neg c3] at tx
  have d3 : a.code ≠ 43 := by unfold rdTexts at c3; simp only [decide_eq_true_eq] at c3; exact c3
  obtain ⟨l5, l22⟩ := ht5 c1 c2 c3
  obtain ⟨_, sl, _⟩ := sh
  have hfive : a.code = 5 ∨ a.code = 6 → T.length = 5 := by
    rintro (e | e) <;> rw [sl, e] <;> rfl
  have hv5 := of_decide_eq_true hc
  by_cases c22 : a.code = 22
  · rw [if_pos c22] at tx
    have u6 : decide (a.code = 5) = false := decide_eq_false (by omega)
    have u7 : decide (a.code = 6) = false := decide_eq_false (by omega)
    have u8 : decide (a.code = 22) = true := decide_eq_true c22
    refine fin (LV 1 (I .u8) T .sh) ⟨_, by unfold s_triuneref07_text rqE anE at *; rw [hz]; simp -implicitDefEqProofs (disch := first | omega | (simp only [List.length_set, List.length_append, List.length_cons, List.length_nil, List.length_take, List.length_drop, List.length_map]; omega) | simp) [wrap_i64, wrap_u16_id, wrap_u8_id, tdiv_pos, tmod_pos, -getElem?_pos, -getElem?_neg, -List.length_eq_zero_iff, -List.getElem_cons_drop, k1, u1, u2, u3, u4, u5, u6, u7, u8, hx]; rfl⟩ (fun H' => by rw [tx]; simp)
  rw [if_neg c22] at tx
  have u8 : decide (a.code = 22) = false := decide_eq_false c22
  by_cases c5 : a.code = 5
  · have u6 : decide (a.code = 5) = true := decide_eq_true c5
    refine fin (LV 1 (I .u8) T .sh) ⟨_, by unfold s_triuneref07_text rqE anE at *; rw [hz]; simp -implicitDefEqProofs (disch := first | omega | (simp only [List.length_set, List.length_append, List.length_cons, List.length_nil, List.length_take, List.length_drop, List.length_map]; omega) | simp) [wrap_i64, wrap_u16_id, wrap_u8_id, tdiv_pos, tmod_pos, -getElem?_pos, -getElem?_neg, -List.length_eq_zero_iff, -List.getElem_cons_drop, k1, u1, u2, u3, u4, u5, u6, hx]; rfl⟩ (fun H' => by rw [tx, List.take_of_length_le (by have := hfive (.inl c5); omega)]; simp)
  have u6 : decide (a.code = 5) = false := decide_eq_false c5
  by_cases c6 : a.code = 6
  · have u7 : decide (a.code = 6) = true := decide_eq_true c6
    refine fin (LV 1 (I .u8) T .sh) ⟨_, by unfold s_triuneref07_text rqE anE at *; rw [hz]; simp -implicitDefEqProofs (disch := first | omega | (simp only [List.length_set, List.length_append, List.length_cons, List.length_nil, List.length_take, List.length_drop, List.length_map]; omega) | simp) [wrap_i64, wrap_u16_id, wrap_u8_id, tdiv_pos, tmod_pos, -getElem?_pos, -getElem?_neg, -List.length_eq_zero_iff, -List.getElem_cons_drop, k1, u1, u2, u3, u4, u5, u6, u7, hx]; rfl⟩ (fun H' => by rw [tx, List.take_of_length_le (by have := hfive (.inr c6); omega)]; simp)
  have u7 : decide (a.code = 6) = false := decide_eq_false c6
  by_cases c15 : a.code = 15
  · have u9 : decide (a.code = 15) = true := decide_eq_true c15
    refine fin (LV 1 (I .u8) (T.take 5) .sh) ⟨_, by unfold s_triuneref07_text rqE anE at *; rw [hz]; simp -implicitDefEqProofs (disch := first | omega | (simp only [List.length_set, List.length_append, List.length_cons, List.length_nil, List.length_take, List.length_drop, List.length_map]; omega) | simp) [wrap_i64, wrap_u16_id, wrap_u8_id, tdiv_pos, tmod_pos, -getElem?_pos, -getElem?_neg, -List.length_eq_zero_iff, -List.getElem_cons_drop, k1, u1, u2, u3, u4, u5, u6, u7, u8, u9, hx, l5]; rfl⟩ (fun H' => by rw [tx]; simp)
  have u9 : decide (a.code = 15) = false := decide_eq_false c15
  have u10 : decide (a.code = 16) = true := decide_eq_true (by omega)
  refine fin (LV 1 (I .u8) (T.take 5) .sh) ⟨_, by unfold s_triuneref07_text rqE anE at *; rw [hz]; simp -implicitDefEqProofs (disch := first | omega | (simp only [List.length_set, List.length_append, List.length_cons, List.length_nil, List.length_take, List.length_drop, List.length_map]; omega) | simp) [wrap_i64, wrap_u16_id, wrap_u8_id, tdiv_pos, tmod_pos, -getElem?_pos, -getElem?_neg, -List.length_eq_zero_iff, -List.getElem_cons_drop, k1, u1, u2, u3, u4, u5, u6, u7, u8, u9, u10, hx, l5]; rfl⟩ (fun H' => by rw [tx]; simp)
end Go.Proofs.YtcpgmbpndpcmdaaGreat
namespace Go.Proofs.YtcpgmbpndpcmdaaGreat
open Go
set_option linter.unusedSimpArgs false
set_option linter.unusedVariables false
set_option maxRecDepth 100000
theorem gTx_len : ∀ (k : Nat) (l : List Int), 2 * (gTx k l).length ≤ l.length
  | 0, l => by simp [gTx]
  | k + 1, [] => by simp [gTx]
  | k + 1, [_] => by simp [gTx]
  | k + 1, c :: n :: r => by
    by_cases h : n ≤ (r.length : Int)
    · rw [gTx_step k c n r h]
      have := gTx_len k (r.drop n.toNat)
      rw [List.length_drop] at this
      simp only [List.length_cons]
      omega
    · rw [gTx_stop (k + 1) c n r h]
      simp
theorem gTx_size : ∀ (k : Nat) (l : List Int), ∀ s ∈ gTx k l, s.size ≤ l.length
  | 0, l => by simp [gTx]
  | k + 1, [] => by simp [gTx]
  | k + 1, [_] => by simp [gTx]
  | k + 1, c :: n :: r => by
    by_cases h : n ≤ (r.length : Int)
    · rw [gTx_step k c n r h]
      intro s hs
      rcases List.mem_cons.1 hs with rfl | hs
      · have e : (bA (r.take n.toNat)).size = (toB (r.take n.toNat)).length := by unfold bA; exact List.size_toArray
        have e2 : (toB (r.take n.toNat)).length = (r.take n.toNat).length := by simp [toB]
        rw [e, e2, List.length_take]
        simp only [List.length_cons]
        omega
      · have := gTx_size k (r.drop n.toNat) s hs
        rw [List.length_drop] at this
        simp only [List.length_cons]
        omega
    · rw [gTx_stop (k + 1) c n r h]
      simp
theorem guessA_texts (a : Rq) (b : List Int) (hb : b.length ≤ 600) : (∀ s ∈ (guessA a b).texts, s.size ≤ 600) ∧ (guessA a b).texts.length ≤ 300 := by
  unfold guessA
  split
  · simp
  split
  · simp
  split
  · simp
  split
  · refine ⟨fun s hs => ?_, ?_⟩
    · have := gTx_size b.length (b.drop 7) s hs
      rw [List.length_drop] at this
      omega
    · have := gTx_len b.length (b.drop 7)
      rw [List.length_drop] at this
      show (gTx b.length (b.drop 7)).length ≤ 300
      omega
  · simp [anZ]
theorem ref07_Read_c (n : Nat) (hn : 33000 ≤ n) (a : Rq) (oa : RqOk a) (b : List Int) (hb : Bytes b) (hbl : b.length ≤ 600) (t1 t2 t : Tag) : cP n 29 false [rqE a t1 t2, LV 1 (I .u8) b t] = some (.tup [anE (ansReadV a b).1 .sh .sh .sh, I .i64 (ansReadV a b).2]) := by
  obtain ⟨n, rfl⟩ : ∃ m, n = m + 1 := ⟨n - 1, by omega⟩
  have k1 := ref06_Right_c n (by omega) a .sh .sh
  have go : ∀ r, (∃ H', s_triuneref07_Read n [] 0 (rqE a .sh .sh) (LV 1 (I .u8) b .sh) = some (r, H')) → (∀ H', outD false H' r = some (.tup [anE (ansReadV a b).1 .sh .sh .sh, I .i64 (ansReadV a b).2])) → cP (n + 1) 29 false [rqE a t1 t2, LV 1 (I .u8) b t] = some (.tup [anE (ansReadV a b).1 .sh .sh .sh, I .i64 (ansReadV a b).2]) := by
    intro r ⟨H', h⟩ h2
    exact cP_of (args' := [rqE a .sh .sh, LV 1 (I .u8) b .sh]) (by simp [argEl_eq, rqE]) ((s_triuneref07_Read_eq _ _ _ _ _).trans h) (h2 H')
  by_cases hr : RightP a
  · rw [decide_eq_true hr] at k1
    obtain ⟨g1, g2⟩ := guessA_texts a b hbl
    have gw := guess_words a b
    have k2 := guess07_c n (by omega) a hr b hb hbl .sh .sh .sh
    have k3 := ref07_Right_c n (by omega) a (guessA a b) (fun s hs => Nat.le_trans (g1 s hs) (by decide)) g2 .sh .sh .sh .sh .sh
    have ok : AnOk (guessA a b) := ⟨gw, fun s hs => Nat.le_trans (g1 s hs) (by decide), by omega⟩
    have hrv : ansReadV a b = if ansV a (guessA a b) = true ∧ ansTextV a (guessA a b) = b then (guessA a b, 0) else (anZ, 2) := by unfold ansReadV; rw [if_pos hr]
    have k4 := fun hv => ref07_text_c n (by omega) a oa (guessA a b) ok hv .sh .sh .sh .sh .sh
    have hz : ∀ H', outD false H' (.tup [.agg [I .i64 0, .list 0 [] .ti, .list 0 [] .ti, .list 0 [] .ti], I .i64 2]) = some (.tup [anE anZ .sh .sh .sh, I .i64 2]) := fun H' => rfl
    generalize guessA a b = x at *
    cases hv : ansV a x with
    | false =>
      rw [hv] at k3
      rw [if_neg (by rw [hv]; simp)] at hrv
      rw [hrv] at go ⊢
      refine go (.tup [.agg [I .i64 0, .list 0 [] .ti, .list 0 [] .ti, .list 0 [] .ti], I .i64 2]) ?_ hz
      exact ⟨_, by unfold s_triuneref07_Read rqE anE at *; simp -implicitDefEqProofs (disch := first | omega | (simp only [List.length_set, List.length_append, List.length_cons, List.length_nil, List.length_take, List.length_drop, List.length_map]; omega) | simp) [wrap_i64, wrap_u16_id, wrap_u8_id, tdiv_pos, tmod_pos, -getElem?_pos, -getElem?_neg, -List.length_eq_zero_iff, -List.getElem_cons_drop, k1, k2, k3]; rfl⟩
    | true =>
      rw [hv] at k3
      have k4 := k4 hv
      have hl := ansText_len a x hv
      have k5 := ref01_Same_c n (ansTextV a x) b .sh .sh (by omega) (by omega)
      by_cases ht : ansTextV a x = b
      · rw [decide_eq_true ht] at k5
        rw [if_pos ⟨hv, ht⟩] at hrv
        rw [hrv] at go ⊢
        refine go (.tup [anE x .sh .sh .sh, I .i64 0]) ?_ (fun H' => by simp [anE])
        exact ⟨_, by unfold s_triuneref07_Read rqE anE at *; simp -implicitDefEqProofs (disch := first | omega | (simp only [List.length_set, List.length_append, List.length_cons, List.length_nil, List.length_take, List.length_drop, List.length_map]; omega) | simp) [wrap_i64, wrap_u16_id, wrap_u8_id, tdiv_pos, tmod_pos, -getElem?_pos, -getElem?_neg, -List.length_eq_zero_iff, -List.getElem_cons_drop, k1, k2, k3, k4, k5]; rfl⟩
      · rw [decide_eq_false ht] at k5
        rw [if_neg (fun h => ht h.2)] at hrv
        rw [hrv] at go ⊢
        refine go (.tup [.agg [I .i64 0, .list 0 [] .ti, .list 0 [] .ti, .list 0 [] .ti], I .i64 2]) ?_ hz
        exact ⟨_, by unfold s_triuneref07_Read rqE anE at *; simp -implicitDefEqProofs (disch := first | omega | (simp only [List.length_set, List.length_append, List.length_cons, List.length_nil, List.length_take, List.length_drop, List.length_map]; omega) | simp) [wrap_i64, wrap_u16_id, wrap_u8_id, tdiv_pos, tmod_pos, -getElem?_pos, -getElem?_neg, -List.length_eq_zero_iff, -List.getElem_cons_drop, k1, k2, k3, k4, k5]; rfl⟩
  · rw [decide_eq_false hr] at k1
    have hrv : ansReadV a b = (anZ, 1) := by unfold ansReadV; rw [if_neg hr]
    rw [hrv] at go ⊢
    refine go (.tup [.agg [I .i64 0, .list 0 [] .ti, .list 0 [] .ti, .list 0 [] .ti], I .i64 1]) ?_ (fun H' => rfl)
    exact ⟨_, by unfold s_triuneref07_Read rqE anE at *; simp -implicitDefEqProofs (disch := first | omega | (simp only [List.length_set, List.length_append, List.length_cons, List.length_nil, List.length_take, List.length_drop, List.length_map]; omega) | simp) [wrap_i64, wrap_u16_id, wrap_u8_id, tdiv_pos, tmod_pos, -getElem?_pos, -getElem?_neg, -List.length_eq_zero_iff, -List.getElem_cons_drop, k1]; rfl⟩
def sameS : List ByteArray → List ByteArray → Bool
  | [], _ => true
  | _ :: _, [] => true
  | x :: l, y :: m => if x = y then sameS l m else false
theorem sameS_iff : ∀ (l m : List ByteArray), l.length = m.length → (sameS l m = true ↔ l = m)
  | [], [], _ => by simp [sameS]
  | [], _ :: _, h => by simp at h
  | _ :: _, [], h => by simp at h
  | x :: l, y :: m, h => by
    unfold sameS
    have ih := sameS_iff l m (by simpa using h)
    by_cases e : x = y
    · rw [if_pos e, ih]
      simp [e]
    · rw [if_neg e]
      simp [e]
theorem same7_L (n fl : Nat) (K : Ex → KF) (e0 e1 : TypeId) (c0 c1 c2 d0 d1 d2 : DV) (l m : List ByteArray) (hl : l.length ≤ 1000) (hm : l.length = m.length) : ∀ (k i : Nat), l.length < k + i → i ≤ l.length →
    s_triuneref07_Same_L0 n fl K k (.ptr 0 0) (.ptr 1 0) (I .i64 i) [.cells e0 [c0, c1, c2, LV 1 Sg l .sh], .cells e1 [d0, d1, d2, LV 1 Sg m .sh]] = if sameS (l.drop i) (m.drop i) = true then K (.exit 0) (s_triuneref07_Same_O0 .any) [.cells e0 [c0, c1, c2, LV 1 Sg l .sh], .cells e1 [d0, d1, d2, LV 1 Sg m .sh]] else K .ret (s_triuneref07_Same_O0 (Bo false)) [.cells e0 [c0, c1, c2, LV 1 Sg l .sh], .cells e1 [d0, d1, d2, LV 1 Sg m .sh]] := by
  intro k
  induction k with
  | zero => intro i h; omega
  | succ k ih =>
    intro i h1 h2
    unfold s_triuneref07_Same_L0 s_triuneref07_Same_B0
    by_cases h : i < l.length
    · have hm' : i < m.length := by omega
      rw [List.drop_eq_getElem_cons h, List.drop_eq_getElem_cons hm']
      have hi2 : ((i + 1 : Nat) : Int) = (i : Int) + 1 := by omega
      by_cases e : l[i] = m[i]
      · have hs : sameS (l[i] :: l.drop (i + 1)) (m[i] :: m.drop (i + 1)) = sameS (l.drop (i + 1)) (m.drop (i + 1)) := by conv => lhs; unfold sameS; rw [if_pos e]
        rw [hs]
        have ih' := ih (i + 1) (by omega) (by omega)
        rw [hi2] at ih'
        have hd : decide (l[i] = m[i]) = true := decide_eq_true e
        simp -implicitDefEqProofs (disch := first | omega | (simp only [List.length_set, List.length_append, List.length_cons, List.length_nil, List.length_take, List.length_drop, List.length_map]; omega) | simp) [wrap_i64, wrap_u16_id, wrap_u8_id, tdiv_pos, tmod_pos, -getElem?_pos, -getElem?_neg, -List.length_eq_zero_iff, -List.getElem_cons_drop, h, hm', hd, ih']
      · have hs : sameS (l[i] :: l.drop (i + 1)) (m[i] :: m.drop (i + 1)) = false := by unfold sameS; rw [if_neg e]
        rw [hs]
        have hd : decide (l[i] = m[i]) = false := decide_eq_false e
        simp only [Bool.false_eq_true, if_false]
        simp -implicitDefEqProofs (disch := first | omega | (simp only [List.length_set, List.length_append, List.length_cons, List.length_nil, List.length_take, List.length_drop, List.length_map]; omega) | simp) [wrap_i64, wrap_u16_id, wrap_u8_id, tdiv_pos, tmod_pos, -getElem?_pos, -getElem?_neg, -List.length_eq_zero_iff, -List.getElem_cons_drop, h, hm', hd]
    · have : i = l.length := by omega
      subst this
      rw [List.drop_length]
      simp only [sameS, if_true]
      simp -implicitDefEqProofs (disch := first | omega | (simp only [List.length_set, List.length_append, List.length_cons, List.length_nil, List.length_take, List.length_drop, List.length_map]; omega) | simp) [wrap_i64, wrap_u16_id, wrap_u8_id, tdiv_pos, tmod_pos, -getElem?_pos, -getElem?_neg, -List.length_eq_zero_iff, -List.getElem_cons_drop]
theorem ref07_Same_c (n : Nat) (x y : An) (t1 t2 t3 u1 u2 u3 : Tag) (hb : x.bits.length ≤ 10000) (hw : x.words.length ≤ 10000) (ht : x.texts.length ≤ 1000) (hyb : y.bits.length ≤ 10000) (hyw : y.words.length ≤ 10000) (hyt : y.texts.length ≤ 1000) (hn : 31010 ≤ n) : cP n 13 false [anE x t1 t2 t3, anE y u1 u2 u3] = some (Bo (decide (x.exc = y.exc) && decide (x.bits = y.bits) && decide (x.words = y.words) && decide (x.texts = y.texts))) := by
  obtain ⟨n, rfl⟩ : ∃ m, n = m + 1 := ⟨n - 1, by omega⟩
  have k1 := ref02_SameBits_c n x.bits y.bits .sh .sh (by omega) (by omega)
  have k2 := ref02_Same_c n x.words y.words .sh .sh (by omega) (by omega)
  have go : ∀ r, (∃ H', s_triuneref07_Same n [] 0 (anE x .sh .sh .sh) (anE y .sh .sh .sh) = some (Bo r, H')) → (decide (x.exc = y.exc) && decide (x.bits = y.bits) && decide (x.words = y.words) && decide (x.texts = y.texts)) = r → cP (n + 1) 13 false [anE x t1 t2 t3, anE y u1 u2 u3] = some (Bo (decide (x.exc = y.exc) && decide (x.bits = y.bits) && decide (x.words = y.words) && decide (x.texts = y.texts))) := by
    intro r ⟨H', h⟩ h2
    rw [h2]
    exact cP_of (r := Bo r) (args' := [anE x .sh .sh .sh, anE y .sh .sh .sh]) (by simp [argEl_eq, anE]) ((s_triuneref07_Same_eq _ _ _ _ _).trans h) (by simp)
  by_cases h1 : x.exc = y.exc
  case neg => exact go false ⟨_, by unfold s_triuneref07_Same anE; simp -implicitDefEqProofs (disch := first | omega | (simp only [List.length_set, List.length_append, List.length_cons, List.length_nil, List.length_take, List.length_drop, List.length_map]; omega) | simp) [wrap_i64, wrap_u16_id, wrap_u8_id, tdiv_pos, tmod_pos, -getElem?_pos, -getElem?_neg, -List.length_eq_zero_iff, -List.getElem_cons_drop, h1]; rfl⟩ (by simp [h1])
  have h1d : decide (x.exc = y.exc) = true := decide_eq_true h1
  by_cases h2 : x.bits = y.bits
  case neg =>
    rw [decide_eq_false h2] at k1
    exact go false ⟨_, by unfold s_triuneref07_Same anE; simp -implicitDefEqProofs (disch := first | omega | (simp only [List.length_set, List.length_append, List.length_cons, List.length_nil, List.length_take, List.length_drop, List.length_map]; omega) | simp) [wrap_i64, wrap_u16_id, wrap_u8_id, tdiv_pos, tmod_pos, -getElem?_pos, -getElem?_neg, -List.length_eq_zero_iff, -List.getElem_cons_drop, h1d, k1]; rfl⟩ (by simp [h2])
  rw [decide_eq_true h2] at k1
  by_cases h3 : x.words = y.words
  case neg =>
    rw [decide_eq_false h3] at k2
    exact go false ⟨_, by unfold s_triuneref07_Same anE; simp -implicitDefEqProofs (disch := first | omega | (simp only [List.length_set, List.length_append, List.length_cons, List.length_nil, List.length_take, List.length_drop, List.length_map]; omega) | simp) [wrap_i64, wrap_u16_id, wrap_u8_id, tdiv_pos, tmod_pos, -getElem?_pos, -getElem?_neg, -List.length_eq_zero_iff, -List.getElem_cons_drop, h1d, k1, k2]; rfl⟩ (by simp [h3])
  rw [decide_eq_true h3] at k2
  by_cases h4 : x.texts.length = y.texts.length
  case neg =>
    have h4d : ¬ ((x.texts.length : Int) = y.texts.length) := by omega
    have h4e : decide ((x.texts.length : Int) = y.texts.length) = false := decide_eq_false h4d
    refine go false ⟨_, by unfold s_triuneref07_Same anE; simp -implicitDefEqProofs (disch := first | omega | (simp only [List.length_set, List.length_append, List.length_cons, List.length_nil, List.length_take, List.length_drop, List.length_map]; omega) | simp) [wrap_i64, wrap_u16_id, wrap_u8_id, tdiv_pos, tmod_pos, -getElem?_pos, -getElem?_neg, -List.length_eq_zero_iff, -List.getElem_cons_drop, h1d, k1, k2, h4, h4e]; rfl⟩ ?_
    have : ¬ x.texts = y.texts := fun e => h4 (by rw [e])
    simp [this]
  have q := fun K => (s_triuneref07_Same_L0_eq n 0 K n (.ptr 0 0) (.ptr 1 0) (I .i64 0) [.cells 51 [I .i64 x.exc, LV 1 Bo x.bits .sh, LV 1 (I .u16) x.words .sh, LV 1 Sg x.texts .sh], .cells 51 [I .i64 y.exc, LV 1 Bo y.bits .sh, LV 1 (I .u16) y.words .sh, LV 1 Sg y.texts .sh]]).trans (same7_L n 0 K _ _ _ _ _ _ _ _ x.texts y.texts ht h4 n 0 (by omega) (by omega))
  simp only [List.drop_zero] at q
  have h4e : decide ((x.texts.length : Int) = y.texts.length) = true := decide_eq_true (by omega)
  have hiff := sameS_iff x.texts y.texts h4
  cases hs : sameS x.texts y.texts with
  | true =>
    rw [hs] at q
    have e := hiff.1 hs
    refine go true ⟨_, by unfold s_triuneref07_Same anE; simp -implicitDefEqProofs (disch := first | omega | (simp only [List.length_set, List.length_append, List.length_cons, List.length_nil, List.length_take, List.length_drop, List.length_map]; omega) | simp) [wrap_i64, wrap_u16_id, wrap_u8_id, tdiv_pos, tmod_pos, -getElem?_pos, -getElem?_neg, -List.length_eq_zero_iff, -List.getElem_cons_drop, h1d, k1, k2, h4, h4e, q, s_triuneref07_Same_O0]; rfl⟩ (by simp [h1, h2, h3, e])
  | false =>
    rw [hs] at q
    have e : ¬ x.texts = y.texts := fun e => by have := hiff.2 e; rw [hs] at this; cases this
    refine go false ⟨_, by unfold s_triuneref07_Same anE; simp -implicitDefEqProofs (disch := first | omega | (simp only [List.length_set, List.length_append, List.length_cons, List.length_nil, List.length_take, List.length_drop, List.length_map]; omega) | simp) [wrap_i64, wrap_u16_id, wrap_u8_id, tdiv_pos, tmod_pos, -getElem?_pos, -getElem?_neg, -List.length_eq_zero_iff, -List.getElem_cons_drop, h1d, k1, k2, h4, h4e, q, s_triuneref07_Same_O0]; rfl⟩ (by simp [e])
end Go.Proofs.YtcpgmbpndpcmdaaGreat
namespace Go.Proofs.YtcpgmbpndpcmdaaGreat
open Go
set_option linter.unusedSimpArgs false
set_option linter.unusedVariables false
set_option maxRecDepth 100000
set_option maxHeartbeats 1000000
def Mst.RB (m : Mst) (t1 t2 t3 : Tag) : DBlk := .cells 61 (m.C t1 t2 t3)
theorem rRight_c (n : Nat) (hn : 2 ≤ n) (u g wt tr : Int) : cP2 n 9 false [I .u8 u, I .i64 g, I .i64 wt, I .i64 tr] = some (Bo (decide (CfgP u g wt tr))) := by
  obtain ⟨n, rfl⟩ : ∃ m, n = m + 1 := ⟨n - 1, by omega⟩
  have go : ∀ b, decide (CfgP u g wt tr) = b → (∃ H', s_triuneref08_Right n [] 0 (I .u8 u) (I .i64 g) (I .i64 wt) (I .i64 tr) = some (Bo b, H')) → cP2 (n + 1) 9 false [I .u8 u, I .i64 g, I .i64 wt, I .i64 tr] = some (Bo (decide (CfgP u g wt tr))) := by
    intro b h1 ⟨H', h⟩
    rw [h1]
    exact cP2_of (args' := [I .u8 u, I .i64 g, I .i64 wt, I .i64 tr]) (r := Bo b) (by simp [argEl_eq]; first | done | rfl) ((s_triuneref08_Right_eq _ _ _ _ _ _ _).trans h) (by simp)
  unfold CfgP at go ⊢
  unfold s_triuneref08_Right at *
  by_cases c1 : 1 ≤ u
  · by_cases c2 : u ≤ 247
    · by_cases c3 : 1 ≤ g
      · by_cases c4 : g ≤ 20
        · by_cases c5 : 1 ≤ wt
          · by_cases c6 : wt ≤ 1000
            · by_cases c7 : 1 ≤ tr
              · by_cases c8 : tr ≤ 5
                · exact go true (decide_eq_true ⟨⟨c1, c2⟩, ⟨c3, c4⟩, ⟨c5, c6⟩, c7, c8⟩) ⟨_, by simp -implicitDefEqProofs (disch := first | omega | (simp only [List.length_set, List.length_append, List.length_cons, List.length_nil, List.length_take, List.length_drop, List.length_map]; omega) | simp) [wrap_i64, wrap_u16_id, wrap_u8_id, tdiv_pos, tmod_pos, -getElem?_pos, -getElem?_neg, -List.length_eq_zero_iff, -List.getElem_cons_drop, c1, c2, c3, c4, c5, c6, c7, c8]; rfl⟩
                · exact go false (decide_eq_false fun h => c8 h.2.2.2.2) ⟨_, by simp -implicitDefEqProofs (disch := first | omega | (simp only [List.length_set, List.length_append, List.length_cons, List.length_nil, List.length_take, List.length_drop, List.length_map]; omega) | simp) [wrap_i64, wrap_u16_id, wrap_u8_id, tdiv_pos, tmod_pos, -getElem?_pos, -getElem?_neg, -List.length_eq_zero_iff, -List.getElem_cons_drop, c1, c2, c3, c4, c5, c6, c7, c8]; rfl⟩
              · exact go false (decide_eq_false fun h => c7 h.2.2.2.1) ⟨_, by simp -implicitDefEqProofs (disch := first | omega | (simp only [List.length_set, List.length_append, List.length_cons, List.length_nil, List.length_take, List.length_drop, List.length_map]; omega) | simp) [wrap_i64, wrap_u16_id, wrap_u8_id, tdiv_pos, tmod_pos, -getElem?_pos, -getElem?_neg, -List.length_eq_zero_iff, -List.getElem_cons_drop, c1, c2, c3, c4, c5, c6, c7]; rfl⟩
            · exact go false (decide_eq_false fun h => c6 h.2.2.1.2) ⟨_, by simp -implicitDefEqProofs (disch := first | omega | (simp only [List.length_set, List.length_append, List.length_cons, List.length_nil, List.length_take, List.length_drop, List.length_map]; omega) | simp) [wrap_i64, wrap_u16_id, wrap_u8_id, tdiv_pos, tmod_pos, -getElem?_pos, -getElem?_neg, -List.length_eq_zero_iff, -List.getElem_cons_drop, c1, c2, c3, c4, c5, c6]; rfl⟩
          · exact go false (decide_eq_false fun h => c5 h.2.2.1.1) ⟨_, by simp -implicitDefEqProofs (disch := first | omega | (simp only [List.length_set, List.length_append, List.length_cons, List.length_nil, List.length_take, List.length_drop, List.length_map]; omega) | simp) [wrap_i64, wrap_u16_id, wrap_u8_id, tdiv_pos, tmod_pos, -getElem?_pos, -getElem?_neg, -List.length_eq_zero_iff, -List.getElem_cons_drop, c1, c2, c3, c4, c5]; rfl⟩
        · exact go false (decide_eq_false fun h => c4 h.2.1.2) ⟨_, by simp -implicitDefEqProofs (disch := first | omega | (simp only [List.length_set, List.length_append, List.length_cons, List.length_nil, List.length_take, List.length_drop, List.length_map]; omega) | simp) [wrap_i64, wrap_u16_id, wrap_u8_id, tdiv_pos, tmod_pos, -getElem?_pos, -getElem?_neg, -List.length_eq_zero_iff, -List.getElem_cons_drop, c1, c2, c3, c4]; rfl⟩
      · exact go false (decide_eq_false fun h => c3 h.2.1.1) ⟨_, by simp -implicitDefEqProofs (disch := first | omega | (simp only [List.length_set, List.length_append, List.length_cons, List.length_nil, List.length_take, List.length_drop, List.length_map]; omega) | simp) [wrap_i64, wrap_u16_id, wrap_u8_id, tdiv_pos, tmod_pos, -getElem?_pos, -getElem?_neg, -List.length_eq_zero_iff, -List.getElem_cons_drop, c1, c2, c3]; rfl⟩
    · exact go false (decide_eq_false fun h => c2 h.1.2) ⟨_, by simp -implicitDefEqProofs (disch := first | omega | (simp only [List.length_set, List.length_append, List.length_cons, List.length_nil, List.length_take, List.length_drop, List.length_map]; omega) | simp) [wrap_i64, wrap_u16_id, wrap_u8_id, tdiv_pos, tmod_pos, -getElem?_pos, -getElem?_neg, -List.length_eq_zero_iff, -List.getElem_cons_drop, c1, c2]; rfl⟩
  · exact go false (decide_eq_false fun h => c1 h.1.1) ⟨_, by simp -implicitDefEqProofs (disch := first | omega | (simp only [List.length_set, List.length_append, List.length_cons, List.length_nil, List.length_take, List.length_drop, List.length_map]; omega) | simp) [wrap_i64, wrap_u16_id, wrap_u8_id, tdiv_pos, tmod_pos, -getElem?_pos, -getElem?_neg, -List.length_eq_zero_iff, -List.getElem_cons_drop, c1]; rfl⟩
theorem rNew_yes (n : Nat) (hn : 3 ≤ n) (u g wt tr : Int) (H : Heap) (fl : Nat) (hfl : fl ≤ H.length) (h : CfgP u g wt tr) :
    cK2 n 7 [I .u8 u, I .i64 g, I .i64 wt, I .i64 tr] H fl = some (.tup [.ptr H.length 0, I .i64 0], H ++ [(mst0 u g wt tr).RB .ti .ti .ti]) := by
  obtain ⟨n, rfl⟩ : ∃ m, n = m + 1 := ⟨n - 1, by omega⟩
  have e1 := rRight_c n (by omega) u g wt tr
  rw [decide_eq_true h] at e1
  unfold cK2
  refine (s_triuneref08_New_eq _ _ _ _ _ _ _).trans ?_
  unfold s_triuneref08_New mst0 Mst.RB Mst.C
  simp -implicitDefEqProofs (disch := first | omega | (simp only [List.length_set, List.length_append, List.length_cons, List.length_nil, List.length_take, List.length_drop, List.length_map]; omega) | simp) [wrap_i64, wrap_u16_id, wrap_u8_id, tdiv_pos, tmod_pos, -getElem?_pos, -getElem?_neg, -List.length_eq_zero_iff, -List.getElem_cons_drop, e1]
  all_goals (repeat' (first | rfl | apply And.intro))
theorem rNew_no (n : Nat) (hn : 3 ≤ n) (u g wt tr : Int) (H : Heap) (fl : Nat) (h : ¬ CfgP u g wt tr) :
    cK2 n 7 [I .u8 u, I .i64 g, I .i64 wt, I .i64 tr] H fl = some (.tup [.flat (.pointer none), I .i64 1], H) := by
  obtain ⟨n, rfl⟩ : ∃ m, n = m + 1 := ⟨n - 1, by omega⟩
  have e1 := rRight_c n (by omega) u g wt tr
  rw [decide_eq_false h] at e1
  unfold cK2
  refine (s_triuneref08_New_eq _ _ _ _ _ _ _).trans ?_
  unfold s_triuneref08_New
  simp -implicitDefEqProofs (disch := first | omega | (simp only [List.length_set, List.length_append, List.length_cons, List.length_nil, List.length_take, List.length_drop, List.length_map]; omega) | simp) [wrap_i64, wrap_u16_id, wrap_u8_id, tdiv_pos, tmod_pos, -getElem?_pos, -getElem?_neg, -List.length_eq_zero_iff, -List.getElem_cons_drop, e1]
theorem Mst.oldR {m : Mst} {t1 t2 t3 : Tag} {n : Nat} {X : Heap} (h1 : okT t1) (h2 : okT t2) (h3 : okT t3) : oldBlk n X (m.RB t1 t2 t3) = some (m.RB t1 t2 t3) := by
  unfold Mst.RB Mst.C
  simp [oldLeaf_okT h1, oldLeaf_okT h2, oldLeaf_okT h3]
theorem Mst.wfR {m : Mst} {t1 t2 t3 : Tag} {n : Nat} (h1 : okT t1) (h2 : okT t2) (h3 : okT t3) : WfB n (m.RB t1 t2 t3) := by
  unfold Mst.RB Mst.C
  intro d hd
  simp only [List.mem_cons, List.not_mem_nil, or_false] at hd
  rcases hd with rfl | rfl | rfl | rfl | rfl | rfl | rfl | rfl | rfl | rfl | rfl | rfl | rfl | rfl | rfl | rfl | rfl <;> first | rfl | simp [inSc_okT h1, inSc_okT h2, inSc_okT h3]
theorem buildL_nil8 : buildL false 1 0 (I .u8 0) [] = some (LV 1 (I .u8) [] .ti) := rfl
def rTakeV (m : Mst) (b : List Int) : Mst := if b = [] then m else if m.st = 2 then { m with q := 0, came := (m.came ++ b).take 300 } else { m with q := 0 }
theorem rTake_c (n k fl : Nat) (hn : 5 ≤ n) (H : Heap) (m : Mst) (b : List Int) (t t1 t2 t3 : Tag) (hk : H[k]? = some (m.RB t1 t2 t3)) (hw : WfH H) (hfl : fl ≤ k) (h1 : okT t1) (h2 : okT t2) (h3 : okT t3) (hl : m.came.length ≤ 300) (hb : b.length ≤ 1000000) :
    ∃ t3', okT t3' ∧ cW2 n 17 [.ptr k 0, LV 1 (I .u8) b t] H fl = some (.tup [], H.set k ((rTakeV m b).RB t1 t2 t3')) := by
  obtain ⟨n, rfl⟩ : ∃ m, n = m + 1 := ⟨n - 1, by omega⟩
  have hkl := hp_lt hk
  have hlen : ∀ l : List Int, l ≠ [] → ¬ (l.length : Int) = 0 := fun l h h' => h (List.eq_nil_of_length_eq_zero (by omega))
  unfold rTakeV
  by_cases c1 : b = []
  · subst c1
    refine ⟨t3, h3, ?_⟩
    rw [if_pos rfl]
    refine cW2_of (r := .tup []) (H' := H) ((s___triuneref08_Master__Take_eq _ _ _ _ _).trans ?_) (by simp) (cutH_set hw (k := k) (b := m.RB t1 t2 t3) hkl hk (fun j hj hjk => rfl) (Mst.oldR h1 h2 h3))
    unfold s___triuneref08_Master__Take
    simp -implicitDefEqProofs (disch := first | omega | (simp only [List.length_set, List.length_append, List.length_cons, List.length_nil, List.length_take, List.length_drop, List.length_map]; omega) | simp) [wrap_i64, wrap_u16_id, wrap_u8_id, tdiv_pos, tmod_pos, -getElem?_pos, -getElem?_neg, -List.length_eq_zero_iff, -List.getElem_cons_drop]
  · have hbl := hlen b c1
    simp only [if_neg c1]
    by_cases c2 : m.st = 2
    · simp only [if_pos c2]
      obtain ⟨t4, H2, hA, hT, h2l, h2j, h2w, h2x⟩ := appG_all (e := 5) (ag := false) (sz := 1) (by_ := 1) (n0 := H.length) (enc := I .u8) (xs := []) (ys := m.came) (t := .ti) (t' := t3)
        (H := H.set k (Mst.RB { m with q := 0 } t1 t2 t3)) (fl := fl) (by omega) (by simp) (.inl rfl) rfl (by simp; omega) (by simp; omega)
      obtain ⟨t5, H3, hA2, hT2, h3l, h3j, h3w, h3x⟩ := appG_all (e := 5) (ag := false) (sz := 1) (by_ := 1) (n0 := H.length) (enc := I .u8) (xs := [] ++ m.came) (ys := b) (t := t4) (t' := t)
        (H := H2) (fl := fl) (by omega) (by simp at h2l; omega) hT rfl (by simp; omega) (by simp; omega)
      rw [List.nil_append] at hA hA2 hT2
      have hk3 : H3[k]? = some (Mst.RB { m with q := 0 } t1 t2 t3) := by rw [h3j k hkl, h2j k hkl, hp_set_get _ _ _ hkl]
      have hk3l := hp_lt hk3
      obtain ⟨L, hL⟩ : ∃ L, L = m.came ++ b := ⟨_, rfl⟩
      rw [← hL] at hA2 hT2 ⊢
      have hLl : L.length ≤ 1000300 := by rw [hL]; simp; omega
      have ht6 : okT (slT t5 ((min (L.length : Int) 300).toNat == L.length)) := by
        unfold slT
        split
        · exact .inr rfl
        · exact .inl rfl
      have e5 : L.take (min (L.length : Int) 300).toNat = L.take 300 := by
        have e : (min (L.length : Int) 300).toNat = min 300 L.length := by omega
        rw [e, ← List.take_take, List.take_length]
      have hm0 : 0 ≤ min (L.length : Int) 300 := by omega
      have hm1 : min (L.length : Int) 300 ≤ L.length := by omega
      refine ⟨_, ht6, cW2_of (r := .tup []) (H' := H3.set k (Mst.RB { m with q := 0, came := L.take 300 } t1 t2 (slT t5 ((min (L.length : Int) 300).toNat == L.length)))) ((s___triuneref08_Master__Take_eq _ _ _ _ _).trans ?_) (by simp) (cutH_set hw (k := k) hkl (hp_set_get _ _ _ hk3l) (fun j hj hjk => by rw [hp_set_ne _ _ _ _ hjk, h3j j hj, h2j j hj, hp_set_ne _ _ _ _ hjk]) (Mst.oldR h1 h2 ht6))⟩
      unfold s___triuneref08_Master__Take
      unfold Mst.RB Mst.C at *
      simp only at *
      rw [c2] at hk hA hk3 ⊢
      have hz := buildL_nil8
      simp -implicitDefEqProofs (disch := first | omega | (simp only [List.length_set, List.length_append, List.length_cons, List.length_nil, List.length_take, List.length_drop, List.length_map]; omega) | simp) [wrap_i64, wrap_u16_id, wrap_u8_id, tdiv_pos, tmod_pos, -getElem?_pos, -getElem?_neg, -List.length_eq_zero_iff, -List.getElem_cons_drop, hk, hkl, hbl, hz, hA, hA2, hk3, hk3l, hm0, hm1, e5]
    · simp only [if_neg c2]
      refine ⟨t3, h3, cW2_of (r := .tup []) (H' := H.set k (Mst.RB { m with q := 0 } t1 t2 t3)) ((s___triuneref08_Master__Take_eq _ _ _ _ _).trans ?_) (by simp) (cutH_set hw (k := k) hkl (by simp [hkl]) (fun j hj hjk => by simp [hjk]) (Mst.oldR h1 h2 h3))⟩
      unfold s___triuneref08_Master__Take
      unfold Mst.RB Mst.C at *
      simp -implicitDefEqProofs (disch := first | omega | (simp only [List.length_set, List.length_append, List.length_cons, List.length_nil, List.length_take, List.length_drop, List.length_map]; omega) | simp) [wrap_i64, wrap_u16_id, wrap_u8_id, tdiv_pos, tmod_pos, -getElem?_pos, -getElem?_neg, -List.length_eq_zero_iff, -List.getElem_cons_drop, hk, hkl, hbl, c2]
      all_goals (repeat' (first | rfl | apply And.intro))
end Go.Proofs.YtcpgmbpndpcmdaaGreat
namespace Go.Proofs.YtcpgmbpndpcmdaaGreat
open Go
set_option linter.unusedSimpArgs false
set_option linter.unusedVariables false
set_option maxRecDepth 100000
set_option maxHeartbeats 1000000
def rStartV (m : Mst) (a : Rq) : Int × Mst := if m.st ≠ 0 then (8, m) else if ¬ RightP a then (2, m) else (0, { m with st := 1, f := 0, n := 0, a := a })
theorem buildL_nil16 : buildL false 1 0 (I .u16 0) [] = some (LV 1 (I .u16) [] .ti) := rfl
theorem buildL_nilB : buildL false 1 0 (Bo false) [] = some (LV 1 Bo [] .ti) := rfl
theorem oT.mono {n m : Nat} {t : Tag} (h : oT m t) (hn : n ≤ m) : oT n t := h.imp id fun ⟨k, h1, h2⟩ => ⟨k, h1, by omega⟩
theorem rStart_c (n k fl : Nat) (hn : 60 ≤ n) (H : Heap) (m : Mst) (a : Rq) (s1 s2 t1 t2 t3 : Tag) (hk : H[k]? = some (m.RB t1 t2 t3)) (hw : WfH H) (hfl : fl ≤ k) (h1 : okT t1) (h2 : okT t2) (h3 : okT t3) (oa : RightP a → RqOk a) :
    ∃ t1' t2', okT t1' ∧ okT t2' ∧ cW2 n 15 [.ptr k 0, rqE a s1 s2] H fl = some (I .i64 (rStartV m a).1, H.set k ((rStartV m a).2.RB t1' t2' t3)) := by
  obtain ⟨n, rfl⟩ : ∃ m, n = m + 1 := ⟨n - 1, by omega⟩
  have hkl := hp_lt hk
  have same : ∀ (e : Int) (X : Heap), s___triuneref08_Master__Start n H fl (.ptr k 0) (rqE a s1 s2) = some (I .i64 e, H ++ X) → cW2 (n + 1) 15 [.ptr k 0, rqE a s1 s2] H fl = some (I .i64 e, H.set k (m.RB t1 t2 t3)) := by
    intro e X h
    exact cW2_of ((s___triuneref08_Master__Start_eq _ _ _ _ _).trans h) (by simp) (cutH_set hw (k := k) (b := m.RB t1 t2 t3) hkl (by rw [hp_get_left _ _ _ hkl]; exact hk) (fun j hj hjk => by rw [hp_get_left _ _ _ hj]) (Mst.oldR h1 h2 h3))
  have hR := cP_up (ref06_Right_c n (by omega) a s1 s2)
  unfold rStartV
  by_cases c1 : m.st = 0
  · rw [if_neg (by simpa using c1)]
    by_cases c2 : RightP a
    · rw [if_neg (by simpa using c2)]
      rw [decide_eq_true c2] at hR
      have oa := oa c2
      have lw := oa.lw
      have lb := oa.lb
      obtain ⟨t4, H2, hA, hT, h2l, h2j, h2w, h2x⟩ := appG_all (e := 38) (ag := false) (sz := 1) (by_ := 2) (n0 := (H ++ [DBlk.cells 58 (rqE a s1 s2).cells]).length) (enc := I .u16) (xs := []) (ys := a.words) (t := .ti) (t' := s1)
        (H := H ++ [.cells 58 (rqE a s1 s2).cells]) (fl := fl) (by simp; omega) (Nat.le_refl _) (.inl rfl) rfl (by simp; omega) (by simp; omega)
      obtain ⟨t5, H3, hA2, hT2, h3l, h3j, h3w, h3x⟩ := appG_all (e := 4) (ag := false) (sz := 1) (by_ := 1) (n0 := (H ++ [DBlk.cells 58 (rqE a s1 s2).cells]).length) (enc := Bo) (xs := []) (ys := a.bits) (t := .ti) (t' := s2)
        (H := H2.set H.length (.cells 58 (rqE a t4 s2).cells)) (fl := fl) (by simp; omega) (by simp at h2l ⊢; omega) (.inl rfl) rfl (by simp; omega) (by simp; omega)
      rw [List.nil_append] at hA hA2
      have hl1 : (H ++ [DBlk.cells 58 (rqE a s1 s2).cells]).length = H.length + 1 := by simp
      rw [hl1] at h2l h2j hT hT2 h3j
      have hb2 : H2[H.length]? = some (.cells 58 (rqE a s1 s2).cells) := by rw [h2j _ (by omega)]; simp
      have hb2l := hp_lt hb2
      have hb3 : H3[H.length]? = some (.cells 58 (rqE a t4 s2).cells) := by rw [h3j _ (by omega), hp_set_get _ _ _ hb2l]
      have hb3l := hp_lt hb3
      have hk3 : H3[k]? = some (m.RB t1 t2 t3) := by rw [h3j _ (by omega), hp_set_ne _ _ _ _ (by omega), h2j _ (by omega), hp_get_left _ _ _ hkl]; exact hk
      have hk3l := hp_lt hk3
      obtain ⟨t4', q4, e4⟩ := oldLeaf_oT (hT.oT.mono (show H.length ≤ H.length + 1 by omega)) ((H3.set H.length (.cells 58 (rqE a t4 t5).cells)).set k (Mst.RB { m with st := 1, f := 0, n := 0, a := a } t4 t5 t3)) 1 (I .u16) a.words
      obtain ⟨t5', q5, e5⟩ := oldLeaf_oT (hT2.oT.mono (show H.length ≤ H.length + 1 by omega)) ((H3.set H.length (.cells 58 (rqE a t4 t5).cells)).set k (Mst.RB { m with st := 1, f := 0, n := 0, a := a } t4 t5 t3)) 1 Bo a.bits
      have hold : oldBlk H.length ((H3.set H.length (.cells 58 (rqE a t4 t5).cells)).set k (Mst.RB { m with st := 1, f := 0, n := 0, a := a } t4 t5 t3)) (Mst.RB { m with st := 1, f := 0, n := 0, a := a } t4 t5 t3) = some (Mst.RB { m with st := 1, f := 0, n := 0, a := a } t4' t5' t3) := by
        generalize (H3.set H.length (.cells 58 (rqE a t4 t5).cells)).set k (Mst.RB { m with st := 1, f := 0, n := 0, a := a } t4 t5 t3) = Z at *
        unfold Mst.RB Mst.C
        simp [e4, e5, oldLeaf_okT h3]
      refine ⟨t4', t5', q4, q5, cW2_of (r := I .i64 0) (H' := (H3.set H.length (.cells 58 (rqE a t4 t5).cells)).set k (Mst.RB { m with st := 1, f := 0, n := 0, a := a } t4 t5 t3)) ((s___triuneref08_Master__Start_eq _ _ _ _ _).trans ?_) (by simp) (cutH_set hw (k := k) hkl (hp_set_get _ _ _ (by simpa using hk3l)) (fun j hj hjk => by rw [hp_set_ne _ _ _ _ hjk, hp_set_ne _ _ _ _ (by omega), h3j _ (by omega), hp_set_ne _ _ _ _ (by omega), h2j _ (by omega), hp_get_left _ _ _ hj]) hold)⟩
      have hkk : k ≠ H.length := by omega
      have hkk' : H.length ≠ k := by omega
      have z1 := buildL_nil16
      have z2 := buildL_nilB
      clear hold e4 e5 h2w h3w h2x h3x hT hT2
      unfold s___triuneref08_Master__Start
      unfold Mst.RB Mst.C at *
      unfold rqE at *
      simp only [cells_agg] at *
      simp -implicitDefEqProofs (disch := first | omega | (simp only [List.length_set, List.length_append, List.length_cons, List.length_nil, List.length_take, List.length_drop, List.length_map]; omega) | simp) [wrap_i64, wrap_u16_id, wrap_u8_id, tdiv_pos, tmod_pos, -getElem?_pos, -getElem?_neg, -List.length_eq_zero_iff, -List.getElem_cons_drop, hk, hkl, c1, hR, hA, hA2, hb2, hb2l, hb3, hb3l, hk3, hk3l, hkk, hkk', z1, z2]
    · rw [if_pos c2]
      rw [decide_eq_false c2] at hR
      refine ⟨t1, t2, h1, h2, same 2 [.cells 58 (rqE a s1 s2).cells] ?_⟩
      unfold s___triuneref08_Master__Start
      unfold Mst.RB Mst.C at *
      unfold rqE at *
      simp -implicitDefEqProofs (disch := first | omega | (simp only [List.length_set, List.length_append, List.length_cons, List.length_nil, List.length_take, List.length_drop, List.length_map]; omega) | simp) [wrap_i64, wrap_u16_id, wrap_u8_id, tdiv_pos, tmod_pos, -getElem?_pos, -getElem?_neg, -List.length_eq_zero_iff, -List.getElem_cons_drop, hk, hkl, hR, c1]
  · rw [if_pos (by simpa using c1)]
    refine ⟨t1, t2, h1, h2, same 8 [.cells 58 (rqE a s1 s2).cells] ?_⟩
    unfold s___triuneref08_Master__Start
    unfold Mst.RB Mst.C at *
    unfold rqE at *
    simp -implicitDefEqProofs (disch := first | omega | (simp only [List.length_set, List.length_append, List.length_cons, List.length_nil, List.length_take, List.length_drop, List.length_map]; omega) | simp) [wrap_i64, wrap_u16_id, wrap_u8_id, tdiv_pos, tmod_pos, -getElem?_pos, -getElem?_neg, -List.length_eq_zero_iff, -List.getElem_cons_drop, hk, hkl, c1]
def rFailedV (m : Mst) (kind : Int) : Int × Mst := if m.n < m.tr then (0, { m with st := 1, f := 0 }) else (kind, { m with st := 0 })
theorem rFailed_c (n k fl : Nat) (hn : 2 ≤ n) (H : Heap) (m : Mst) (t1 t2 t3 : Tag) (kind : Int) (hk : H[k]? = some (m.RB t1 t2 t3)) (hw : WfH H) (hfl : fl ≤ k) (h1 : okT t1) (h2 : okT t2) (h3 : okT t3) :
    cW2 n 27 [.ptr k 0, I .i64 kind] H fl = some (.tup [LV 1 (I .u8) [] .ti, I .i64 (rFailedV m kind).1, anE anZ .ti .ti .ti], H.set k ((rFailedV m kind).2.RB t1 t2 t3)) := by
  obtain ⟨n, rfl⟩ : ∃ m, n = m + 1 := ⟨n - 1, by omega⟩
  have hkl := hp_lt hk
  have key : ∀ (r : Int × Mst), rFailedV m kind = r → (∃ o, s___triuneref08_Master__failed n H fl (.ptr k 0) (I .i64 kind) = some (.tup [LV 1 (I .u8) [] .ti, I .i64 r.1, anE anZ .ti .ti .ti], H.set k (r.2.RB t1 t2 t3) ++ [o])) →
      cW2 (n + 1) 27 [.ptr k 0, I .i64 kind] H fl = some (.tup [LV 1 (I .u8) [] .ti, I .i64 (rFailedV m kind).1, anE anZ .ti .ti .ti], H.set k ((rFailedV m kind).2.RB t1 t2 t3)) := by
    intro r e1 ⟨o, h⟩
    rw [e1]
    exact cW2_of ((s___triuneref08_Master__failed_eq _ _ _ _ _).trans h) (by simp [anE]) (cutH_set hw (k := k) hkl (by simp [hkl]) (fun j hj hjk => by rw [hp_get_left _ _ _ (by simpa using hj), hp_set_ne _ _ _ _ hjk]) (Mst.oldR h1 h2 h3))
  unfold s___triuneref08_Master__failed at key
  unfold rFailedV at key ⊢
  unfold Mst.RB Mst.C at *
  unfold anE anZ at *
  by_cases c : m.n < m.tr
  · exact key _ (if_pos c) ⟨_, by simp -implicitDefEqProofs (disch := first | omega | (simp only [List.length_set, List.length_append, List.length_cons, List.length_nil, List.length_take, List.length_drop, List.length_map]; omega) | simp) [wrap_i64, wrap_u16_id, wrap_u8_id, tdiv_pos, tmod_pos, -getElem?_pos, -getElem?_neg, -List.length_eq_zero_iff, -List.getElem_cons_drop, hk, hkl, c]; all_goals (repeat' (first | rfl | apply And.intro))⟩
  · exact key _ (if_neg c) ⟨_, by simp -implicitDefEqProofs (disch := first | omega | (simp only [List.length_set, List.length_append, List.length_cons, List.length_nil, List.length_take, List.length_drop, List.length_map]; omega) | simp) [wrap_i64, wrap_u16_id, wrap_u8_id, tdiv_pos, tmod_pos, -getElem?_pos, -getElem?_neg, -List.length_eq_zero_iff, -List.getElem_cons_drop, hk, hkl, c]; all_goals (repeat' (first | rfl | apply And.intro))⟩
end Go.Proofs.YtcpgmbpndpcmdaaGreat
namespace Go.Proofs.YtcpgmbpndpcmdaaGreat
open Go
set_option linter.unusedSimpArgs false
set_option linter.unusedVariables false
set_option maxRecDepth 100000
set_option maxHeartbeats 2000000
def Mst.q1 (m : Mst) : Mst := { m with q := min (m.q + 1) 1000000 }
def Mst.q2 (m : Mst) : Mst := { m with q := min (m.q + 1) 1000000, f := m.f + 1 }
def rSent (m : Mst) : Mst := { m with q := 0, f := 0, n := m.n + 1, st := 2, came := [] }
def rTickV (m : Mst) : List Int × Int × An × Mst :=
  if m.st = 0 then ([], 0, anZ, m.q1) else
  if m.st = 1 then (if m.q2.q < m.g ∧ m.q2.f < m.wt then ([], 0, anZ, m.q2) else (frameV m, 0, anZ, rSent m)) else
  if m.came = [] then (if m.wt ≤ m.q2.f then ([], (rFailedV m.q2 2).1, anZ, (rFailedV m.q2 2).2) else ([], 0, anZ, m.q2)) else
  if m.g ≤ m.q2.q then (if (toldV m).2 = true then ([], 1, (toldV m).1, { m.q2 with st := 0 }) else ([], (rFailedV m.q2 3).1, anZ, (rFailedV m.q2 3).2)) else
  if 2 * m.wt ≤ m.q2.f then ([], (rFailedV m.q2 3).1, anZ, (rFailedV m.q2 3).2) else ([], 0, anZ, m.q2)
theorem rTick_c (n k fl : Nat) (hn : 33100 ≤ n) (H : Heap) (m : Mst) (x : Int) (t1 t2 t3 : Tag) (hk : H[k]? = some (m.RB t1 t2 t3)) (hw : WfH H) (hfl : fl ≤ k) (h1 : okT t1) (h2 : okT t2) (h3 : okT t3) (ok : MstOk m x) (hx : x < 1000000) :
    ∃ tb tq t3', okT t3' ∧ okT tb ∧ okT tq ∧ cW2 n 11 [.ptr k 0] H fl = some (.tup [LV 1 (I .u8) (rTickV m).1 tb, I .i64 (rTickV m).2.1, anE (rTickV m).2.2.1 tq tq tq], H.set k ((rTickV m).2.2.2.RB t1 t2 t3')) := by
  obtain ⟨n, rfl⟩ : ∃ m, n = m + 1 := ⟨n - 1, by omega⟩
  have hkl := hp_lt hk
  obtain ⟨q0, q1⟩ := ok.q
  obtain ⟨f0, f1⟩ := ok.f
  obtain ⟨n0, n1⟩ := ok.n
  obtain ⟨w0, w1⟩ := ok.wt
  have hf2 : m.f + 1 < 9223372036854775808 := by omega
  have hq2 : m.q + 1 < 9223372036854775808 := by omega
  have key : ∀ (r : List Int × Int × An × Mst) (tb tq t3' : Tag), rTickV m = r → okT tb → okT tq → okT t3' →
      (∃ X, s___triuneref08_Master__Tick n H fl (.ptr k 0) = some (.tup [LV 1 (I .u8) r.1 tb, I .i64 r.2.1, anE r.2.2.1 tq tq tq], H.set k (r.2.2.2.RB t1 t2 t3') ++ X)) →
      ∃ tb tq t3', okT t3' ∧ okT tb ∧ okT tq ∧ cW2 (n + 1) 11 [.ptr k 0] H fl = some (.tup [LV 1 (I .u8) (rTickV m).1 tb, I .i64 (rTickV m).2.1, anE (rTickV m).2.2.1 tq tq tq], H.set k ((rTickV m).2.2.2.RB t1 t2 t3')) := by
    intro r tb tq t3' e1 htb htq ht3 ⟨X, h⟩
    rw [e1]
    exact ⟨tb, tq, t3', ht3, htb, htq, cW2_of ((s___triuneref08_Master__Tick_eq _ _ _ _).trans h) (by simp [anE, oldLeaf_okT htb, oldLeaf_okT htq]) (cutH_set hw (k := k) hkl (by simp [hkl]) (fun j hj hjk => by rw [hp_get_left _ _ _ (by simpa using hj), hp_set_ne _ _ _ _ hjk]) (Mst.oldR h1 h2 ht3))⟩
  have hk2 : ∀ X, (H.set k (m.q2.RB t1 t2 t3) ++ X)[k]? = some (m.q2.RB t1 t2 t3) := fun X => by simp [hkl]
  have hw2 : WfH (H.set k (m.q2.RB t1 t2 t3)) := hw.set k (Mst.wfR h1 h2 h3)
  have hF := fun (kind : Int) (X : Heap) (hX : WfH (H.set k (m.q2.RB t1 t2 t3) ++ X)) => rFailed_c n k fl (by omega) (H.set k (m.q2.RB t1 t2 t3) ++ X) m.q2 t1 t2 t3 kind (hk2 X) hX hfl h1 h2 h3
  simp only [hp_set_left _ _ _ _ (show k < (H.set k (m.q2.RB t1 t2 t3)).length by simpa using hkl), List.set_set] at hF
  have z0 : ∀ N, WfB N (DBlk.cells 51 [I .i64 0, .list 0 [] .ti, .list 0 [] .ti, .list 0 [] .ti]) := fun N d hd => by
    simp only [List.mem_cons, List.not_mem_nil, or_false] at hd
    rcases hd with rfl | rfl | rfl | rfl <;> rfl
  have zf : ∀ (f : Fm) N, WfB N (DBlk.cells 74 [I .u8 f.u, LV 1 (I .u8) f.p .sh]) := fun f N d hd => by
    simp only [List.mem_cons, List.not_mem_nil, or_false] at hd
    rcases hd with rfl | rfl <;> simp
  have zy : ∀ (y : An) N, WfB N (DBlk.cells 51 (anE y .sh .sh .sh).cells) := fun y N d hd => by
    simp only [anE, cells_agg, List.mem_cons, List.not_mem_nil, or_false] at hd
    rcases hd with rfl | rfl | rfl | rfl <;> simp
  unfold rTickV at key ⊢
  unfold s___triuneref08_Master__Tick at key
  have hsame : ∀ l : List Int, l ≠ [] → ¬ (l.length : Int) = 0 := fun l h h' => h (List.eq_nil_of_length_eq_zero (by omega))
  rcases ok.st with s | s | s
  · simp only [s, if_true] at key ⊢
    unfold Mst.q1 at *
    unfold Mst.RB Mst.C anE anZ at *
    rw [s] at hk
    exact key ([], 0, _, _) .ti .ti t3 rfl (.inr rfl) (.inr rfl) h3 ⟨_, by simp -implicitDefEqProofs (disch := first | omega | (simp only [List.length_set, List.length_append, List.length_cons, List.length_nil, List.length_take, List.length_drop, List.length_map]; omega) | simp) [wrap_i64, wrap_u16_id, wrap_u8_id, tdiv_pos, tmod_pos, -getElem?_pos, -getElem?_neg, -List.length_eq_zero_iff, -List.getElem_cons_drop, hk, hkl, f0, hf2, q0, hq2, s]; all_goals (repeat' (first | rfl | apply And.intro))⟩
  · simp only [s, if_true, show ¬ (1 : Int) = 0 by decide, if_false] at key ⊢
    by_cases c : m.q2.q < m.g ∧ m.q2.f < m.wt
    · simp only [if_pos c] at key ⊢
      obtain ⟨c1, c2⟩ := c
      unfold Mst.q2 at *
      unfold Mst.RB Mst.C anE anZ at *
      rw [s] at hk
      simp only at c1 c2
      exact key ([], 0, _, _) .ti .ti t3 rfl (.inr rfl) (.inr rfl) h3 ⟨_, by simp -implicitDefEqProofs (disch := first | omega | (simp only [List.length_set, List.length_append, List.length_cons, List.length_nil, List.length_take, List.length_drop, List.length_map]; omega) | simp) [wrap_i64, wrap_u16_id, wrap_u8_id, tdiv_pos, tmod_pos, -getElem?_pos, -getElem?_neg, -List.length_eq_zero_iff, -List.getElem_cons_drop, hk, hkl, f0, hf2, q0, hq2, s, c1, c2]; all_goals (repeat' (first | rfl | apply And.intro))⟩
    · simp only [if_neg c] at key ⊢
      have ha := ok.a (by omega)
      have oa := ok.oa
      obtain ⟨l1, l2⟩ := text_few m.a ha.1 oa
      have hA := cP_up (ref06_Bytes_c n (by omega) m.a oa t1 t2)
      rw [if_pos ha] at hA
      have hB := cP_up (ref03_Bytes_c n ⟨m.u, textV m.a⟩ .sh ⟨ok.u, text_bytes m.a, by show (textV m.a).length ≤ 1000; omega⟩ (by omega))
      unfold bytV at hB
      rw [if_neg (by show ¬ (textV m.a).length < 1; omega), if_neg (by show ¬ 253 < (textV m.a).length; omega)] at hB
      have hn2 : m.n + 1 < 9223372036854775808 := by omega
      unfold frameV rSent at *
      unfold Mst.q2 at *
      unfold Mst.RB Mst.C anE anZ rqE fmE at *
      rw [s] at hk
      simp only at c
      by_cases c1 : min (m.q + 1) 1000000 < m.g
      · have c2 : ¬ m.f + 1 < m.wt := fun h => c ⟨c1, h⟩
        exact key (_, 0, _, _) .sh .ti .ti rfl (.inl rfl) (.inr rfl) (.inr rfl) ⟨_, by simp -implicitDefEqProofs (disch := first | omega | (simp only [List.length_set, List.length_append, List.length_cons, List.length_nil, List.length_take, List.length_drop, List.length_map]; omega) | simp) [wrap_i64, wrap_u16_id, wrap_u8_id, tdiv_pos, tmod_pos, -getElem?_pos, -getElem?_neg, -List.length_eq_zero_iff, -List.getElem_cons_drop, hk, hkl, f0, hf2, q0, hq2, n0, hn2, s, c1, c2, hA, hB]; all_goals (repeat' (first | rfl | apply And.intro))⟩
      · exact key (_, 0, _, _) .sh .ti .ti rfl (.inl rfl) (.inr rfl) (.inr rfl) ⟨_, by simp -implicitDefEqProofs (disch := first | omega | (simp only [List.length_set, List.length_append, List.length_cons, List.length_nil, List.length_take, List.length_drop, List.length_map]; omega) | simp) [wrap_i64, wrap_u16_id, wrap_u8_id, tdiv_pos, tmod_pos, -getElem?_pos, -getElem?_neg, -List.length_eq_zero_iff, -List.getElem_cons_drop, hk, hkl, f0, hf2, q0, hq2, n0, hn2, s, c1, hA, hB]; all_goals (repeat' (first | rfl | apply And.intro))⟩
  · simp only [s, show ¬ (2 : Int) = 0 by decide, show ¬ (2 : Int) = 1 by decide, if_false] at key ⊢
    have hF2 := fun kind => hF kind [DBlk.cells 51 [I .i64 0, .list 0 [] .ti, .list 0 [] .ti, .list 0 [] .ti], DBlk.cells 51 [I .i64 0, .list 0 [] .ti, .list 0 [] .ti, .list 0 [] .ti]] (hw2.app fun b hb => by
      simp only [List.mem_cons, List.not_mem_nil, or_false] at hb
      rcases hb with rfl | rfl <;> exact z0 _)
    by_cases c0 : m.came = []
    · have hlen : m.came.length = 0 := by rw [c0]; rfl
      simp only [if_pos c0] at key ⊢
      by_cases c1 : m.wt ≤ m.q2.f
      · simp only [if_pos c1] at key ⊢
        have hF2 := hF2 2
        generalize rFailedV m.q2 2 = r at *
        clear hF hk2 hw2
        unfold Mst.q2 at *
        unfold Mst.RB Mst.C anE anZ at *
        rw [s] at hk hF2
        simp only at c1
        exact key ([], r.1, _, r.2) .ti .ti t3 rfl (.inr rfl) (.inr rfl) h3 ⟨_, by simp -implicitDefEqProofs (disch := first | omega | (simp only [List.length_set, List.length_append, List.length_cons, List.length_nil, List.length_take, List.length_drop, List.length_map]; omega) | simp) [wrap_i64, wrap_u16_id, wrap_u8_id, tdiv_pos, tmod_pos, -getElem?_pos, -getElem?_neg, -List.length_eq_zero_iff, -List.getElem_cons_drop, hk, hkl, f0, hf2, q0, hq2, s, c1, hlen, hF2]; all_goals (repeat' (first | rfl | apply And.intro))⟩
      · simp only [if_neg c1] at key ⊢
        clear hF hF2 hk2 hw2
        unfold Mst.q2 at *
        unfold Mst.RB Mst.C anE anZ at *
        rw [s] at hk
        simp only at c1
        exact key ([], 0, _, _) .ti .ti t3 rfl (.inr rfl) (.inr rfl) h3 ⟨_, by simp -implicitDefEqProofs (disch := first | omega | (simp only [List.length_set, List.length_append, List.length_cons, List.length_nil, List.length_take, List.length_drop, List.length_map]; omega) | simp) [wrap_i64, wrap_u16_id, wrap_u8_id, tdiv_pos, tmod_pos, -getElem?_pos, -getElem?_neg, -List.length_eq_zero_iff, -List.getElem_cons_drop, hk, hkl, f0, hf2, q0, hq2, s, c1, hlen]; all_goals (repeat' (first | rfl | apply And.intro))⟩
    · have hlen := hsame m.came c0
      simp only [if_neg c0] at key ⊢
      by_cases c1 : m.g ≤ m.q2.q
      · simp only [if_pos c1] at key ⊢
        have hR := cP_up (ref03_Read_c n m.came t3 ok.b (by have := ok.l; omega) (by omega))
        have okr := rdV_ok m.came ok.b
        have hlr : (rdV m.came).1.p.length ≤ 600 := by
          unfold rdV
          split
          · simp
          split
          · simp
          split
          · simp
          · simp
            have := ok.l
            omega
        have hA := cP_up (ref07_Read_c n (by omega) m.a ok.oa (rdV m.came).1.p okr.p hlr t1 t2 .sh)
        unfold toldV at key ⊢
        have hF3 := fun (f : Fm) => hF 3 [DBlk.cells 51 [I .i64 0, .list 0 [] .ti, .list 0 [] .ti, .list 0 [] .ti], DBlk.cells 51 [I .i64 0, .list 0 [] .ti, .list 0 [] .ti, .list 0 [] .ti], .cells 74 [I .u8 f.u, LV 1 (I .u8) f.p .sh]] (hw2.app fun b hb => by
          simp only [List.mem_cons, List.not_mem_nil, or_false] at hb
          rcases hb with rfl | rfl | rfl
          · exact z0 _
          · exact z0 _
          · exact zf _ _)
        have hF4 := fun (f : Fm) (y : An) => hF 3 [DBlk.cells 51 [I .i64 0, .list 0 [] .ti, .list 0 [] .ti, .list 0 [] .ti], DBlk.cells 51 [I .i64 0, .list 0 [] .ti, .list 0 [] .ti, .list 0 [] .ti], .cells 74 [I .u8 f.u, LV 1 (I .u8) f.p .sh], .cells 51 (anE y .sh .sh .sh).cells] (hw2.app fun b hb => by
          simp only [List.mem_cons, List.not_mem_nil, or_false] at hb
          rcases hb with rfl | rfl | rfl | rfl
          · exact z0 _
          · exact z0 _
          · exact zf _ _
          · exact zy _ _)
        by_cases d1 : (rdV m.came).2 = 0
        · by_cases d2 : (rdV m.came).1.u = m.u
          · simp only [if_neg (show ¬ ((rdV m.came).2 ≠ 0 ∨ (rdV m.came).1.u ≠ m.u) by simp [d1, d2])] at key ⊢
            generalize (rdV m.came).2 = e at *
            generalize (rdV m.came).1 = x at *
            generalize (ansReadV m.a x.p).2 = e2 at *
            generalize (ansReadV m.a x.p).1 = y at *
            by_cases d3 : e2 = 0
            · simp only [d3, decide_true, if_true] at key ⊢
              clear hF hF2 hF3 hF4 hk2 hw2
              unfold Mst.q2 at *
              unfold Mst.RB Mst.C rqE anE fmE at *
              rw [s] at hk
              simp only at c1
              exact key ([], 1, _, _) .ti .sh t3 rfl (.inr rfl) (.inl rfl) h3 ⟨_, by simp -implicitDefEqProofs (disch := first | omega | (simp only [List.length_set, List.length_append, List.length_cons, List.length_nil, List.length_take, List.length_drop, List.length_map]; omega) | simp) [wrap_i64, wrap_u16_id, wrap_u8_id, tdiv_pos, tmod_pos, -getElem?_pos, -getElem?_neg, -List.length_eq_zero_iff, -List.getElem_cons_drop, hk, hkl, f0, hf2, q0, hq2, s, c1, hlen, d1, d2, d3, hR, hA]; all_goals (repeat' (first | rfl | apply And.intro))⟩
            · simp only [d3, decide_false, Bool.false_eq_true, if_false] at key ⊢
              have hF4 := hF4 x y
              rw [d2] at hF4
              generalize rFailedV m.q2 3 = r at *
              clear hF hF2 hF3 hk2 hw2
              unfold Mst.q2 at *
              unfold Mst.RB Mst.C rqE anE fmE anZ at *
              rw [s] at hk hF4
              simp only [cells_agg] at c1 hF4
              exact key ([], r.1, _, r.2) .ti .ti t3 rfl (.inr rfl) (.inr rfl) h3 ⟨_, by simp -implicitDefEqProofs (disch := first | omega | (simp only [List.length_set, List.length_append, List.length_cons, List.length_nil, List.length_take, List.length_drop, List.length_map]; omega) | simp) [wrap_i64, wrap_u16_id, wrap_u8_id, tdiv_pos, tmod_pos, -getElem?_pos, -getElem?_neg, -List.length_eq_zero_iff, -List.getElem_cons_drop, hk, hkl, f0, hf2, q0, hq2, s, c1, hlen, d1, d2, d3, hR, hA, hF4]; all_goals (repeat' (first | rfl | apply And.intro))⟩
          · simp only [if_pos (show ((rdV m.came).2 ≠ 0 ∨ (rdV m.came).1.u ≠ m.u) from .inr d2), Bool.false_eq_true, if_false] at key ⊢
            have hF3 := hF3 (rdV m.came).1
            generalize (rdV m.came).2 = e at *
            generalize (rdV m.came).1 = x at *
            generalize rFailedV m.q2 3 = r at *
            clear hF hF2 hF4 hk2 hw2 hA
            unfold Mst.q2 at *
            unfold Mst.RB Mst.C anE fmE anZ at *
            rw [s] at hk hF3
            simp only at c1
            exact key ([], r.1, _, r.2) .ti .ti t3 rfl (.inr rfl) (.inr rfl) h3 ⟨_, by simp -implicitDefEqProofs (disch := first | omega | (simp only [List.length_set, List.length_append, List.length_cons, List.length_nil, List.length_take, List.length_drop, List.length_map]; omega) | simp) [wrap_i64, wrap_u16_id, wrap_u8_id, tdiv_pos, tmod_pos, -getElem?_pos, -getElem?_neg, -List.length_eq_zero_iff, -List.getElem_cons_drop, hk, hkl, f0, hf2, q0, hq2, s, c1, hlen, d1, d2, hR, hF3]; all_goals (repeat' (first | rfl | apply And.intro))⟩
        · simp only [if_pos (show ((rdV m.came).2 ≠ 0 ∨ (rdV m.came).1.u ≠ m.u) from .inl d1), Bool.false_eq_true, if_false] at key ⊢
          have hF3 := hF3 (rdV m.came).1
          generalize (rdV m.came).2 = e at *
          generalize (rdV m.came).1 = x at *
          generalize rFailedV m.q2 3 = r at *
          clear hF hF2 hF4 hk2 hw2 hA
          unfold Mst.q2 at *
          unfold Mst.RB Mst.C anE fmE anZ at *
          rw [s] at hk hF3
          simp only at c1
          exact key ([], r.1, _, r.2) .ti .ti t3 rfl (.inr rfl) (.inr rfl) h3 ⟨_, by simp -implicitDefEqProofs (disch := first | omega | (simp only [List.length_set, List.length_append, List.length_cons, List.length_nil, List.length_take, List.length_drop, List.length_map]; omega) | simp) [wrap_i64, wrap_u16_id, wrap_u8_id, tdiv_pos, tmod_pos, -getElem?_pos, -getElem?_neg, -List.length_eq_zero_iff, -List.getElem_cons_drop, hk, hkl, f0, hf2, q0, hq2, s, c1, hlen, d1, hR, hF3]; all_goals (repeat' (first | rfl | apply And.intro))⟩
      · simp only [if_neg c1] at key ⊢
        by_cases c2 : 2 * m.wt ≤ m.q2.f
        · simp only [if_pos c2] at key ⊢
          have hF2 := hF2 3
          generalize rFailedV m.q2 3 = r at *
          clear hF hk2 hw2
          unfold Mst.q2 at *
          unfold Mst.RB Mst.C anE anZ at *
          rw [s] at hk hF2
          simp only at c1 c2
          exact key ([], r.1, _, r.2) .ti .ti t3 rfl (.inr rfl) (.inr rfl) h3 ⟨_, by simp -implicitDefEqProofs (disch := first | omega | (simp only [List.length_set, List.length_append, List.length_cons, List.length_nil, List.length_take, List.length_drop, List.length_map]; omega) | simp) [wrap_i64, wrap_u16_id, wrap_u8_id, tdiv_pos, tmod_pos, -getElem?_pos, -getElem?_neg, -List.length_eq_zero_iff, -List.getElem_cons_drop, hk, hkl, f0, hf2, q0, hq2, s, c1, c2, hlen, hF2]; all_goals (repeat' (first | rfl | apply And.intro))⟩
        · simp only [if_neg c2] at key ⊢
          clear hF hF2 hk2 hw2
          unfold Mst.q2 at *
          unfold Mst.RB Mst.C anE anZ at *
          rw [s] at hk
          simp only at c1 c2
          exact key ([], 0, _, _) .ti .ti t3 rfl (.inr rfl) (.inr rfl) h3 ⟨_, by simp -implicitDefEqProofs (disch := first | omega | (simp only [List.length_set, List.length_append, List.length_cons, List.length_nil, List.length_take, List.length_drop, List.length_map]; omega) | simp) [wrap_i64, wrap_u16_id, wrap_u8_id, tdiv_pos, tmod_pos, -getElem?_pos, -getElem?_neg, -List.length_eq_zero_iff, -List.getElem_cons_drop, hk, hkl, f0, hf2, q0, hq2, s, c1, c2, hlen]; all_goals (repeat' (first | rfl | apply And.intro))⟩
end Go.Proofs.YtcpgmbpndpcmdaaGreat
namespace Go.Proofs.YtcpgmbpndpcmdaaGreat
open Go
set_option linter.unusedSimpArgs false
set_option linter.unusedVariables false
set_option maxHeartbeats 1000000
theorem n10 : (1 : Int) ≠ 0 := by decide
theorem n20 : (2 : Int) ≠ 0 := by decide
theorem n12 : ¬ (1 : Int) = 2 := by decide
theorem n02 : ¬ (0 : Int) = 2 := by decide
structure MRel (m r : Mst) (x : Int) : Prop where
  c : m.u = r.u ∧ m.g = r.g ∧ m.wt = r.wt ∧ m.tr = r.tr
  st : m.st = r.st
  q : m.q = r.q ∧ r.q ≤ 20 + x
  n : m.n = r.n
  a : m.a = r.a
  f : m.st ≠ 0 → m.f = r.f
  came : m.st = 2 → m.came = r.came
  ok : MstOk m x
  okr : MstOk r x
theorem MstOk.upd {m m' : Mst} {x y : Int} (ok : MstOk m x) (h1 : m'.u = m.u) (h2 : m'.wt = m.wt) (h3 : m'.a = m.a) (hst : m'.st = 0 ∨ ((m'.st = 1 ∨ m'.st = 2) ∧ m.st ≠ 0)) (hq : 0 ≤ m'.q ∧ m'.q ≤ 1048576) (hf : 0 ≤ m'.f ∧ m'.f ≤ y) (hn : 0 ≤ m'.n ∧ m'.n ≤ y) (hc : m'.came = m.came ∨ m'.came = []) : MstOk m' y := by
  refine ⟨by rw [h1]; exact ok.u, by rw [h2]; exact ok.wt, by omega, hq, hf, hn, fun h => by rw [h3]; exact ok.a (by omega), by rw [h3]; exact ok.oa, ?_, ?_⟩
  · rcases hc with h | h <;> rw [h]
    · exact ok.b
    · intro y hy; cases hy
  · rcases hc with h | h <;> rw [h]
    · exact ok.l
    · simp
theorem rel_tick {m r : Mst} {x : Int} (h : MRel m r x) (h0 : 0 ≤ x) (hx : x ≤ 1000) :
    (tickV m).1 = (rTickV r).1 ∧ (tickV m).2.1 = (rTickV r).2.1 ∧ (tickV m).2.2.1 = (rTickV r).2.2.1 ∧ MRel (tickV m).2.2.2 (rTickV r).2.2.2 (x + 1) := by
  obtain ⟨⟨c1, c2, c3, c4⟩, hst, ⟨hq1, hq2⟩, hn, ha, hf, hc, ok, okr⟩ := h
  obtain ⟨u, g, wt, tr, st, q, f, n, a, came⟩ := m
  obtain ⟨u', g', wt', tr', st', q', f', n', a', came'⟩ := r
  simp only at c1 c2 c3 c4 hst hq1 hq2 hn ha hf hc
  subst c1; subst c2; subst c3; subst c4; subst hst; subst hq1; subst hn; subst ha
  have o1 := ok.q; have o2 := ok.f; have o3 := ok.n; have o4 := okr.f; have o5 := ok.st
  simp only at o1 o2 o3 o4 o5
  have e1 : min (q + 1) 1048576 = q + 1 := by omega
  have e2 : min (q + 1) 1000000 = q + 1 := by omega
  rcases o5 with s | s | s
  · subst s
    simp only [tickV, rTickV, Mst.tock, Mst.q1, if_true, e1, e2, true_and]
    exact ⟨⟨rfl, rfl, rfl, rfl⟩, rfl, ⟨rfl, by show q + 1 ≤ _; omega⟩, rfl, rfl, fun h => absurd rfl h, fun h => absurd h (by first | exact n10 | exact n20 | exact n12 | exact n02), ok.upd rfl rfl rfl (.inl rfl) (by show 0 ≤ q + 1 ∧ q + 1 ≤ _; omega) (by show 0 ≤ f + 1 ∧ f + 1 ≤ _; omega) (by show 0 ≤ n ∧ n ≤ _; omega) (.inl rfl), okr.upd rfl rfl rfl (.inl rfl) (by show 0 ≤ q + 1 ∧ q + 1 ≤ _; omega) (by show 0 ≤ f' ∧ f' ≤ _; omega) (by show 0 ≤ n ∧ n ≤ _; omega) (.inl rfl)⟩
  · subst s
    have hf := hf (by decide)
    subst hf
    have n1 : ((1 : Int) = 0) = False := by simp
    simp only [tickV, rTickV, sendV, Mst.tock, Mst.q2, if_true, if_false, e1, e2, n1]
    by_cases c : q + 1 < g ∧ f + 1 < wt
    · simp only [if_pos c, true_and]
      exact ⟨⟨rfl, rfl, rfl, rfl⟩, rfl, ⟨rfl, by show q + 1 ≤ _; omega⟩, rfl, rfl, fun h => rfl, fun h => absurd h (by first | exact n10 | exact n20 | exact n12 | exact n02), ok.upd rfl rfl rfl (.inr ⟨.inl rfl, (by first | exact n10 | exact n20 | exact n12 | exact n02)⟩) (by show 0 ≤ q + 1 ∧ q + 1 ≤ _; omega) (by show 0 ≤ f + 1 ∧ f + 1 ≤ _; omega) (by show 0 ≤ n ∧ n ≤ _; omega) (.inl rfl), okr.upd rfl rfl rfl (.inr ⟨.inl rfl, (by first | exact n10 | exact n20 | exact n12 | exact n02)⟩) (by show 0 ≤ q + 1 ∧ q + 1 ≤ _; omega) (by show 0 ≤ f + 1 ∧ f + 1 ≤ _; omega) (by show 0 ≤ n ∧ n ≤ _; omega) (.inl rfl)⟩
    · simp only [if_neg c, Mst.turn, rSent]
      refine ⟨rfl, trivial, trivial, ⟨rfl, rfl, rfl, rfl⟩, rfl, ⟨rfl, by show (0 : Int) ≤ _; omega⟩, rfl, rfl, fun h => rfl, fun h => rfl, ok.upd rfl rfl rfl (.inr ⟨.inr rfl, (by first | exact n10 | exact n20 | exact n12 | exact n02)⟩) (by show (0 : Int) ≤ 0 ∧ (0 : Int) ≤ _; omega) (by show (0 : Int) ≤ 0 ∧ (0 : Int) ≤ _; omega) (by show 0 ≤ n + 1 ∧ n + 1 ≤ _; omega) (.inr rfl), okr.upd rfl rfl rfl (.inr ⟨.inr rfl, (by first | exact n10 | exact n20 | exact n12 | exact n02)⟩) (by show (0 : Int) ≤ 0 ∧ (0 : Int) ≤ _; omega) (by show (0 : Int) ≤ 0 ∧ (0 : Int) ≤ _; omega) (by show 0 ≤ n + 1 ∧ n + 1 ≤ _; omega) (.inr rfl)⟩
  · subst s
    have hf := hf (by decide)
    have hc := hc rfl
    subst hf; subst hc
    have n1 : ((2 : Int) = 0) = False := by simp
    have n2 : ((2 : Int) = 1) = False := by simp
    have et : toldV (⟨u, g, wt, tr, 2, q + 1, f + 1, n, a, came⟩ : Mst) = toldV ⟨u, g, wt, tr, 2, q, f, n, a, came⟩ := rfl
    have failed : ∀ kind : Int, (failedV ⟨u, g, wt, tr, 2, q + 1, f + 1, n, a, came⟩ kind).1 = (rFailedV ⟨u, g, wt, tr, 2, q + 1, f + 1, n, a, came⟩ kind).1 ∧ MRel (failedV ⟨u, g, wt, tr, 2, q + 1, f + 1, n, a, came⟩ kind).2 (rFailedV ⟨u, g, wt, tr, 2, q + 1, f + 1, n, a, came⟩ kind).2 (x + 1) := by
      intro kind
      unfold failedV rFailedV
      by_cases c : n < tr
      · simp only [if_pos c, true_and, Mst.turn]
        exact ⟨⟨rfl, rfl, rfl, rfl⟩, rfl, ⟨rfl, by show q + 1 ≤ _; omega⟩, rfl, rfl, fun h => rfl, fun h => absurd h (by first | exact n10 | exact n20 | exact n12 | exact n02), ok.upd rfl rfl rfl (.inr ⟨.inl rfl, (by first | exact n10 | exact n20 | exact n12 | exact n02)⟩) (by show 0 ≤ q + 1 ∧ q + 1 ≤ _; omega) (by show (0 : Int) ≤ 0 ∧ (0 : Int) ≤ _; omega) (by show 0 ≤ n ∧ n ≤ _; omega) (.inr rfl), okr.upd rfl rfl rfl (.inr ⟨.inl rfl, (by first | exact n10 | exact n20 | exact n12 | exact n02)⟩) (by show 0 ≤ q + 1 ∧ q + 1 ≤ _; omega) (by show (0 : Int) ≤ 0 ∧ (0 : Int) ≤ _; omega) (by show 0 ≤ n ∧ n ≤ _; omega) (.inl rfl)⟩
      · simp only [if_neg c, true_and, Mst.turn]
        exact ⟨⟨rfl, rfl, rfl, rfl⟩, rfl, ⟨rfl, by show q + 1 ≤ _; omega⟩, rfl, rfl, fun h => absurd rfl h, fun h => absurd h (by first | exact n10 | exact n20 | exact n12 | exact n02), ok.upd rfl rfl rfl (.inl rfl) (by show 0 ≤ q + 1 ∧ q + 1 ≤ _; omega) (by show (0 : Int) ≤ 0 ∧ (0 : Int) ≤ _; omega) (by show 0 ≤ n ∧ n ≤ _; omega) (.inr rfl), okr.upd rfl rfl rfl (.inl rfl) (by show 0 ≤ q + 1 ∧ q + 1 ≤ _; omega) (by show 0 ≤ f + 1 ∧ f + 1 ≤ _; omega) (by show 0 ≤ n ∧ n ≤ _; omega) (.inl rfl)⟩
    have rest : MRel ⟨u, g, wt, tr, 2, q + 1, f + 1, n, a, came⟩ ⟨u, g, wt, tr, 2, q + 1, f + 1, n, a, came⟩ (x + 1) :=
      ⟨⟨rfl, rfl, rfl, rfl⟩, rfl, ⟨rfl, by show q + 1 ≤ _; omega⟩, rfl, rfl, fun h => rfl, fun h => rfl, ok.upd rfl rfl rfl (.inr ⟨.inr rfl, (by first | exact n10 | exact n20 | exact n12 | exact n02)⟩) (by show 0 ≤ q + 1 ∧ q + 1 ≤ _; omega) (by show 0 ≤ f + 1 ∧ f + 1 ≤ _; omega) (by show 0 ≤ n ∧ n ≤ _; omega) (.inl rfl), okr.upd rfl rfl rfl (.inr ⟨.inr rfl, (by first | exact n10 | exact n20 | exact n12 | exact n02)⟩) (by show 0 ≤ q + 1 ∧ q + 1 ≤ _; omega) (by show 0 ≤ f + 1 ∧ f + 1 ≤ _; omega) (by show 0 ≤ n ∧ n ≤ _; omega) (.inl rfl)⟩
    simp only [tickV, rTickV, waitV, Mst.tock, Mst.q2, if_false, e1, e2, n1, n2, et]
    by_cases d0 : came = []
    · simp only [d0, ne_eq, not_true, false_and, if_false, true_and, if_true] at *
      by_cases d1 : wt ≤ f + 1
      · simp only [if_pos d1]
        exact ⟨trivial, (failed 2).1, trivial, (failed 2).2⟩
      · simp only [if_neg d1]
        exact ⟨trivial, trivial, trivial, rest⟩
    · simp only [d0, ne_eq, not_false_eq_true, true_and, false_and, if_false]
      by_cases d1 : g ≤ q + 1
      · simp only [if_pos d1]
        by_cases d2 : (toldV ⟨u, g, wt, tr, 2, q, f, n, a, came⟩).2 = true
        · simp only [if_pos d2, Mst.turn]
          exact ⟨trivial, trivial, trivial, ⟨rfl, rfl, rfl, rfl⟩, rfl, ⟨rfl, by show q + 1 ≤ _; omega⟩, rfl, rfl, fun h => absurd rfl h, fun h => absurd h (by first | exact n10 | exact n20 | exact n12 | exact n02), ok.upd rfl rfl rfl (.inl rfl) (by show 0 ≤ q + 1 ∧ q + 1 ≤ _; omega) (by show (0 : Int) ≤ 0 ∧ (0 : Int) ≤ _; omega) (by show 0 ≤ n ∧ n ≤ _; omega) (.inr rfl), okr.upd rfl rfl rfl (.inl rfl) (by show 0 ≤ q + 1 ∧ q + 1 ≤ _; omega) (by show 0 ≤ f + 1 ∧ f + 1 ≤ _; omega) (by show 0 ≤ n ∧ n ≤ _; omega) (.inl rfl)⟩
        · simp only [if_neg d2]
          exact ⟨trivial, (failed 3).1, trivial, (failed 3).2⟩
      · simp only [if_neg d1]
        by_cases d2 : 2 * wt ≤ f + 1
        · simp only [if_pos d2]
          exact ⟨trivial, (failed 3).1, trivial, (failed 3).2⟩
        · simp only [if_neg d2]
          exact ⟨trivial, trivial, trivial, rest⟩
theorem rel_start {m r : Mst} {x : Int} (h : MRel m r x) (h0 : 0 ≤ x) (a : Rq) (oa : RightP a → RqOk a) : (startV m a).1 = (rStartV r a).1 ∧ MRel (startV m a).2 (rStartV r a).2 (x + 1) := by
  have up : MRel m r (x + 1) := by
    obtain ⟨hc, hst, hq, hn, ha, hf, hcm, ok, okr⟩ := h
    have o1 := ok.f; have o2 := okr.f; have o3 := ok.n; have o4 := okr.n
    exact ⟨hc, hst, ⟨hq.1, by omega⟩, hn, ha, hf, hcm, ⟨ok.u, ok.wt, ok.st, ok.q, by omega, by omega, ok.a, ok.oa, ok.b, ok.l⟩, ⟨okr.u, okr.wt, okr.st, okr.q, by omega, by omega, okr.a, okr.oa, okr.b, okr.l⟩⟩
  unfold startV rStartV
  rw [← h.st]
  by_cases c : m.st ≠ 0
  · simp only [if_pos c]
    exact ⟨trivial, up⟩
  · simp only [if_neg c]
    by_cases c2 : RightP a
    · simp only [not_true, c2, if_false]
      have o1 := h.ok; have o2 := h.okr
      exact ⟨trivial, h.c, rfl, ⟨h.q.1, by have := h.q.2; show r.q ≤ _; omega⟩, rfl, rfl, fun _ => rfl, fun h => absurd h (by show ¬ (1 : Int) = 2; decide), ⟨o1.u, o1.wt, .inr (.inl rfl), o1.q, ⟨Int.le_refl _, by show (0 : Int) ≤ _; omega⟩, ⟨Int.le_refl _, by show (0 : Int) ≤ _; omega⟩, fun _ => c2, oa c2, (fun y hy => by cases hy), by show (0 : Nat) ≤ 300; decide⟩,
        ⟨o2.u, o2.wt, .inr (.inl rfl), o2.q, ⟨Int.le_refl _, by show (0 : Int) ≤ _; omega⟩, ⟨Int.le_refl _, by show (0 : Int) ≤ _; omega⟩, fun _ => c2, oa c2, o2.b, o2.l⟩⟩
    · simp only [not_false_eq_true, c2, if_true]
      exact ⟨trivial, up⟩
theorem rel_take {m r : Mst} {x : Int} (h : MRel m r x) (h0 : 0 ≤ x) (b : List Int) (hb : Bytes b) : MRel (takeV m b) (rTakeV r b) (x + 1) := by
  have up : MRel m r (x + 1) := by
    obtain ⟨hc, hst, hq, hn, ha, hf, hcm, ok, okr⟩ := h
    have o1 := ok.f; have o2 := okr.f; have o3 := ok.n; have o4 := okr.n
    exact ⟨hc, hst, ⟨hq.1, by omega⟩, hn, ha, hf, hcm, ⟨ok.u, ok.wt, ok.st, ok.q, by omega, by omega, ok.a, ok.oa, ok.b, ok.l⟩, ⟨okr.u, okr.wt, okr.st, okr.q, by omega, by omega, okr.a, okr.oa, okr.b, okr.l⟩⟩
  unfold takeV rTakeV
  rw [← h.st]
  by_cases c : b = []
  · simp only [if_pos c]
    exact up
  · simp only [if_neg c]
    obtain ⟨hc, hst, hq, hn, ha, hf, hcm, ok, okr⟩ := up
    by_cases c2 : m.st = 2
    · simp only [if_pos c2]
      have e := hcm c2
      have hl := ok.l
      have e3 : (r.came ++ b).take 300 = m.came ++ b.take (300 - m.came.length) := by
        rw [← e, List.take_append, List.take_of_length_le hl]
      have hbb : Bytes (m.came ++ b.take (300 - m.came.length)) := fun y hy => by
        rcases List.mem_append.1 hy with hy | hy
        · exact ok.b y hy
        · exact hb y (List.mem_of_mem_take hy)
      have hll : (m.came ++ b.take (300 - m.came.length)).length ≤ 300 := by
        rw [List.length_append, List.length_take]
        omega
      exact ⟨hc, rfl, ⟨rfl, by show (0 : Int) ≤ _; omega⟩, hn, ha, hf, fun _ => e3.symm, ⟨ok.u, ok.wt, ok.st, ⟨by show (0 : Int) ≤ 0; decide, by show (0 : Int) ≤ _; decide⟩, ok.f, ok.n, ok.a, ok.oa, hbb, hll⟩, ⟨okr.u, okr.wt, ok.st, ⟨by show (0 : Int) ≤ 0; decide, by show (0 : Int) ≤ _; decide⟩, okr.f, okr.n, (fun hh => okr.a (by rw [← hst]; exact hh)), okr.oa, by show Bytes ((r.came ++ b).take 300); rw [e3]; exact hbb, by show ((r.came ++ b).take 300).length ≤ 300; rw [e3]; exact hll⟩⟩
    · simp only [if_neg c2]
      exact ⟨hc, rfl, ⟨rfl, by show (0 : Int) ≤ _; omega⟩, hn, ha, hf, fun h => absurd h c2, ⟨ok.u, ok.wt, ok.st, ⟨by show (0 : Int) ≤ 0; decide, by show (0 : Int) ≤ _; decide⟩, ok.f, ok.n, ok.a, ok.oa, ok.b, ok.l⟩, ⟨okr.u, okr.wt, ok.st, ⟨by show (0 : Int) ≤ 0; decide, by show (0 : Int) ≤ _; decide⟩, okr.f, okr.n, (fun hh => okr.a (by rw [← hst]; exact hh)), okr.oa, okr.b, okr.l⟩⟩
end Go.Proofs.YtcpgmbpndpcmdaaGreat
namespace Go.Proofs.YtcpgmbpndpcmdaaGreat
open Go
set_option linter.unusedSimpArgs false
set_option linter.unusedVariables false
theorem leR_trans {β : Type} {x y z : Option β} (h : leR x y) (k : leR y z) : leR x z := fun r e => k r (h r e)
theorem loopG_le (keep out : List Nat) (N : Nat) {body : List DV → Heap → (Ex → KF) → R} (hb : ∀ s H (k k' : Ex → KF), (∀ x s H, leR (k x s H) (k' x s H)) → leR (body s H k) (body s H k')) : ∀ (m m' : Nat) (h : m ≤ m') (s : List DV) (H : Heap) (k : Ex → KF), leR (loopG keep out N body m s H k) (loopG keep out N body m' s H k) := by
  intro m
  induction m with
  | zero => intro m' h s H k r e; cases e
  | succ m ih =>
    intro m' h s H k
    obtain ⟨m', rfl⟩ : ∃ q, m' = q + 1 := ⟨m' - 1, by omega⟩
    rw [loopG_succ, loopG_succ]
    refine hb s H _ _ fun x s H => ?_
    cases x with
    | normal => simp only [forceL_eq]; exact ih _ (by omega) _ _ _
    | exit i => exact leR_refl _
    | ret => exact leR_refl _
theorem execG_fuel {cf cf' : CF} (hc : CLe cf cf') (P : Program) (md : FuncId → CM) (fl N n n' : Nat) (hn : n ≤ n') : ∀ (c : Code) (ks : List (List Nat × List Nat)) (s : List DV) (H : Heap) (k k' : Ex → KF), (∀ x s H, leR (k x s H) (k' x s H)) → leR (execG ⟨P, cf, md, fl, N⟩ n c ks s H k) (execG ⟨P, cf', md, fl, N⟩ n' c ks s H k') := by
  intro c
  induction c with
  | skip => intro ks s H k k' hk; exact hk _ _ _
  | region id ops draw =>
    intro ks s H k k' hk
    unfold execG
    simp only [holesF_eq]
    cases (draw && !drawOk ops (ops.toList.map (sCls md false))) with
    | false => exact opsG_mono hc _ _ _ _ _ _ _ _ _ _ _ _ fun s H => hk _ _ _
    | true =>
      dsimp only
      cases drawOk ops (ops.toList.map fun o => sCls md (isElLd P ops o) o) with
      | true => exact opsG_mono hc _ _ _ _ _ _ _ _ _ _ _ _ fun s H => hk _ _ _
      | false => exact leR_refl _
  | seq a b iha ihb =>
    intro ks s H k k' hk
    unfold execG
    refine iha _ _ _ _ _ fun x s H => ?_
    cases x with
    | normal => exact ihb _ _ _ _ _ hk
    | exit i => exact hk _ _ _
    | ret => exact hk _ _ _
  | cond c a b iha ihb =>
    intro ks s H k k' hk
    unfold execG
    have ha := iha (ks.take (nloops a)) s H k k' hk
    have hb := ihb (ks.drop (nloops a)) s H k k' hk
    intro r e
    unfold condR at e ⊢
    split at e
    · exact ha r e
    · exact hb r e
    · cases e
  | block id b ih =>
    intro ks s H k k' hk
    unfold execG
    refine ih _ _ _ _ _ fun x s H => ?_
    cases x with
    | normal => exact hk _ _ _
    | exit i =>
      dsimp only
      split
      · exact hk _ _ _
      · exact hk _ _ _
    | ret => exact hk _ _ _
  | loop b ih =>
    intro ks s H k k' hk
    unfold execG
    simp only [forceL_eq]
    refine leR_trans (loopG_mono (body := execG ⟨P, cf, md, fl, N⟩ n b ks.tail) (body' := execG ⟨P, cf', md, fl, N⟩ n' b ks.tail) _ _ _ (fun s H k k' hk => ih ks.tail s H k k' hk) _ _ _ _ _ fun x s H => ?_)
      (loopG_le _ _ _ (fun s H k k' hk => execG_mono (fun _ _ _ _ _ h => h) P md fl N n' b ks.tail s H k k' hk) _ _ hn _ _ _)
    cases x with
    | normal => exact leR_refl _
    | exit i => exact hk _ _ _
    | ret => exact hk _ _ _
  | scope b ih => intro ks s H k k' hk; exact ih _ _ _ _ _ hk
  | exit id => intro ks s H k k' hk; exact hk _ _ _
  | ret => intro ks s H k k' hk; exact hk _ _ _
  | _ => intros; exact leR_refl _
theorem callG_fuel (P : Program) (E : Env) : ∀ n n', n ≤ n' → CLe (callG P E n) (callG P E n') := by
  intro n
  induction n with
  | zero => intro n' _ f args H fl r h; cases h
  | succ n ih =>
    intro n' hn f args H fl r h
    obtain ⟨n', rfl⟩ : ∃ q, n' = q + 1 := ⟨n' - 1, by omega⟩
    rw [callG_eq] at h ⊢
    unfold bodyG at h ⊢
    cases hp : E.prim f with
    | some g => rw [hp] at h; exact h
    | none =>
      rw [hp] at h
      dsimp only at h ⊢
      cases hf : P.funcs[f]? with
      | none => rw [hf] at h; cases h
      | some fn =>
        rw [hf] at h
        dsimp only at h ⊢
        cases hb : fn.body with
        | none => rw [hb] at h; cases h
        | some c =>
          rw [hb] at h
          dsimp only at h ⊢
          split at h
          · cases h
          · rename_i hlt
            rw [if_neg hlt]
            simp only [forceL_eq] at h ⊢
            exact execG_fuel (ih n' (by omega)) P E.md fl fn.ntmps n n' (by omega) c (E.ks f) _ H _ _ (fun x s H => leR_refl _) r h
end Go.Proofs.YtcpgmbpndpcmdaaGreat
namespace Go.Proofs.YtcpgmbpndpcmdaaGreat
open Go
theorem awake08u (n : Nat) (hn : 39998 ≤ n) : cP2 (n + 1) 4 false [] = some (Bo true) := by
  have h : (callG Tryz.prog ENV2 39999 4 [] [] 0).map (·.1) = some (.flat (.bool true)) := by kernel_rfl
  obtain ⟨⟨d, H'⟩, h, rfl⟩ := Option.map_eq_some_iff.1 h
  exact cP2_of (args' := []) (by simp) (callG_fuel Tryz.prog ENV2 39999 (n + 1) (by omega) _ _ _ _ _ h) (by simp)
end Go.Proofs.YtcpgmbpndpcmdaaGreat
