/- CodecNumbers: its rounds. -/
import Derived.Test.YtmmaenfjnkoknaaQc0
import Derived.Test.YtmmaenfjnkoknaaQc1
import Derived.Test.YtmmaenfjnkoknaaQc2
import Derived.Test.YtmmaenfjnkoknaaQc3
import Derived.Test.YtmmaenfjnkoknaaQc4
import Derived.Test.YtmmaenfjnkoknaaQc5
import Derived.Test.YtmmaenfjnkoknaaQc6
import Derived.Test.YtmmaenfjnkoknaaQc7
import Derived.Test.YtmmaenfjnkoknaaNlaw6
import Derived.Test.YtmmaenfjnkoknaaVC
set_option linter.unusedVariables false
set_option maxRecDepth 100000
namespace Go.Proofs.Ytmmaenfjnkoknaa.VA
open Go
attribute [local irreducible] WK NK XK TK RK FK CK CFK CallRel C
theorem n6a : stepB O6 400 (.seq (hdC A_clavigerlaw6_CodecNumbers) (.seq (hdC (tlC A_clavigerlaw6_CodecNumbers)) (hdC (hdC (tlC (tlC A_clavigerlaw6_CodecNumbers)))))) (List.replicate 230 .dead) [] (s06 0) h06 = true := by kernel_rfl
theorem n6b_0 : stepB O6 400 A_clavigerlaw6_CodecNumbers_L0 (s06 0) h06 (s06 (0 + 1)) h06 = true := by kernel_rfl
theorem n6b_1 : stepB O6 400 A_clavigerlaw6_CodecNumbers_L0 (s06 1) h06 (s06 (1 + 1)) h06 = true := by kernel_rfl
theorem n6b_2 : stepB O6 400 A_clavigerlaw6_CodecNumbers_L0 (s06 2) h06 (s06 (2 + 1)) h06 = true := by kernel_rfl
theorem n6b_3 : stepB O6 400 A_clavigerlaw6_CodecNumbers_L0 (s06 3) h06 (s06 (3 + 1)) h06 = true := by kernel_rfl
theorem n6b_4 : stepB O6 400 A_clavigerlaw6_CodecNumbers_L0 (s06 4) h06 (s06 (4 + 1)) h06 = true := by kernel_rfl
theorem n6b_5 : stepB O6 400 A_clavigerlaw6_CodecNumbers_L0 (s06 5) h06 (s06 (5 + 1)) h06 = true := by kernel_rfl
theorem n6b_6 : stepB O6 400 A_clavigerlaw6_CodecNumbers_L0 (s06 6) h06 (s06 (6 + 1)) h06 = true := by kernel_rfl
theorem n6b_7 : stepB O6 400 A_clavigerlaw6_CodecNumbers_L0 (s06 7) h06 (s06 (7 + 1)) h06 = true := by kernel_rfl
theorem n6b_8 : stepB O6 400 A_clavigerlaw6_CodecNumbers_L0 (s06 8) h06 (s06 (8 + 1)) h06 = true := by kernel_rfl
theorem n6b_9 : stepB O6 400 A_clavigerlaw6_CodecNumbers_L0 (s06 9) h06 (s06 (9 + 1)) h06 = true := by kernel_rfl
theorem n6b_10 : stepB O6 400 A_clavigerlaw6_CodecNumbers_L0 (s06 10) h06 (s06 (10 + 1)) h06 = true := by kernel_rfl
theorem n6b_11 : stepB O6 400 A_clavigerlaw6_CodecNumbers_L0 (s06 11) h06 (s06 (11 + 1)) h06 = true := by kernel_rfl
theorem n6b_12 : stepB O6 400 A_clavigerlaw6_CodecNumbers_L0 (s06 12) h06 (s06 (12 + 1)) h06 = true := by kernel_rfl
theorem n6b_13 : stepB O6 400 A_clavigerlaw6_CodecNumbers_L0 (s06 13) h06 (s06 (13 + 1)) h06 = true := by kernel_rfl
theorem n6b : ∀ i, i < 14 → stepB O6 400 A_clavigerlaw6_CodecNumbers_L0 (s06 i) h06 (s06 (i + 1)) h06 = true
  | 0, _ => n6b_0
  | 1, _ => n6b_1
  | 2, _ => n6b_2
  | 3, _ => n6b_3
  | 4, _ => n6b_4
  | 5, _ => n6b_5
  | 6, _ => n6b_6
  | 7, _ => n6b_7
  | 8, _ => n6b_8
  | 9, _ => n6b_9
  | 10, _ => n6b_10
  | 11, _ => n6b_11
  | 12, _ => n6b_12
  | 13, _ => n6b_13
  | i + 14, h => absurd h (by omega)
theorem n6c : ∀ i, i < 8 → stepB O6 400 A_clavigerlaw6_CodecNumbers_L3 (s36 i) h06 (s36 (i + 1)) h06 = true
  | 0, _ => n6c_0
  | 1, _ => n6c_1
  | 2, _ => n6c_2
  | 3, _ => n6c_3
  | 4, _ => n6c_4
  | 5, _ => n6c_5
  | 6, _ => n6c_6
  | 7, _ => n6c_7
  | i + 8, h => absurd h (by omega)
theorem n6d : stepB O6 400 (.seq (hdC E6) (hdC (hdC (tlC E6)))) (vb false :: .ref 1 0 :: .dead :: .dead :: vi .i64 7 :: .dead :: .dead :: .dead :: .dead :: .dead :: .dead :: .dead :: .dead :: .dead :: .dead :: .dead :: .dead :: .dead :: .dead :: .dead :: .dead :: .dead :: .dead :: .dead :: .dead :: .dead :: .dead :: .dead :: .dead :: .dead :: .dead :: .dead :: .dead :: .dead :: .dead :: .dead :: .dead :: .dead :: .dead :: .dead :: .dead :: .dead :: .dead :: .dead :: .dead :: .dead :: .dead :: .dead :: .dead :: .dead :: .dead :: .dead :: .dead :: .dead :: .dead :: .dead :: .dead :: .dead :: .dead :: .dead :: .dead :: .dead :: .dead :: .dead :: .dead :: .dead :: .dead :: .dead :: .dead :: .dead :: .dead :: .dead :: .dead :: .dead :: .dead :: .dead :: .dead :: .dead :: .dead :: .dead :: .dead :: .dead :: .dead :: .dead :: .dead :: .dead :: .dead :: .dead :: .dead :: .dead :: .dead :: .dead :: .dead :: .dead :: vi .i64 7 :: vb false :: .dead :: .dead :: .dead :: .dead :: .dead :: .dead :: .dead :: .dead :: .dead :: .dead :: .dead :: .dead :: .dead :: .dead :: .dead :: .dead :: .dead :: .dead :: .dead :: .dead :: .dead :: .dead :: .dead :: .dead :: .dead :: .dead :: .dead :: .dead :: .dead :: .dead :: .dead :: .dead :: .dead :: .dead :: .dead :: .dead :: .dead :: .dead :: .dead :: .dead :: .dead :: .dead :: .dead :: .dead :: .dead :: .dead :: .dead :: .dead :: .dead :: .dead :: .dead :: .dead :: .dead :: .dead :: .dead :: .dead :: .dead :: .dead :: .dead :: .dead :: .dead :: .dead :: .dead :: .dead :: .dead :: .dead :: .dead :: .dead :: .dead :: .dead :: .dead :: .dead :: .dead :: .dead :: .dead :: .dead :: .dead :: .dead :: .dead :: .dead :: .dead :: .dead :: .dead :: .dead :: .dead :: .dead :: .dead :: .dead :: .dead :: .dead :: .dead :: .dead :: .dead :: .dead :: .dead :: .dead :: .dead :: .dead :: .dead :: .dead :: .dead :: .dead :: .dead :: .dead :: .dead :: .dead :: .dead :: .dead :: .dead :: .dead :: .dead :: .dead :: .dead :: .dead :: .dead :: .dead :: .dead :: .dead :: .dead :: .dead :: .dead :: .dead :: .dead :: .dead :: .dead :: .dead :: .dead :: .dead :: .dead :: .dead :: .dead :: .dead :: .dead :: .dead :: []) h06 (s56 0) (h56 0) = true := by kernel_rfl
end Go.Proofs.Ytmmaenfjnkoknaa.VA
