/- Contract of pick.Kind; the example of layer 18's laws. -/
import Derived.Test.YtnbogjiddildaaaP3
namespace Go.Proofs.Ytnbogjiddildaaa
open Go.RowKit
set_option linter.unusedSimpArgs false
set_option linter.unusedVariables false

set_option maxHeartbeats 1000000 in
set_option maxRecDepth 20000 in
theorem f56_0  (w : World) :
    Calls Try.prog 56 #[.int .i64 0] w fun e w' => e = .returned (.string ⟨#[102, 105, 110, 100]⟩) ∧ Below w.heap.size w w' := by
  go_enter Try.func56, Try.ntmps56
  go_wp2
  go_ret
  exact ⟨rfl, balloc (Below.refl _ _) _⟩

set_option maxHeartbeats 1000000 in
set_option maxRecDepth 20000 in
theorem f56_1  (w : World) :
    Calls Try.prog 56 #[.int .i64 1] w fun e w' => e = .returned (.string ⟨#[103, 105, 118, 101]⟩) ∧ Below w.heap.size w w' := by
  go_enter Try.func56, Try.ntmps56
  go_wp2
  go_ret
  exact ⟨rfl, balloc (Below.refl _ _) _⟩

set_option maxHeartbeats 1000000 in
set_option maxRecDepth 20000 in
theorem f56_2  (w : World) :
    Calls Try.prog 56 #[.int .i64 2] w fun e w' => e = .returned (.string ⟨#[109, 111, 118, 101]⟩) ∧ Below w.heap.size w w' := by
  go_enter Try.func56, Try.ntmps56
  go_wp2
  go_ret
  exact ⟨rfl, balloc (Below.refl _ _) _⟩

set_option maxHeartbeats 1000000 in
set_option maxRecDepth 20000 in
theorem f56_3  (w : World) :
    Calls Try.prog 56 #[.int .i64 3] w fun e w' => e = .returned (.string ⟨#[112, 117, 116]⟩) ∧ Below w.heap.size w w' := by
  go_enter Try.func56, Try.ntmps56
  go_wp2
  go_ret
  exact ⟨rfl, balloc (Below.refl _ _) _⟩

set_option maxHeartbeats 1000000 in
set_option maxRecDepth 20000 in
theorem f56_4  (w : World) :
    Calls Try.prog 56 #[.int .i64 4] w fun e w' => e = .returned (.string ⟨#[116, 101, 108, 108]⟩) ∧ Below w.heap.size w w' := by
  go_enter Try.func56, Try.ntmps56
  go_wp2
  go_ret
  exact ⟨rfl, balloc (Below.refl _ _) _⟩

set_option maxHeartbeats 1000000 in
set_option maxRecDepth 20000 in
theorem f56_5  (w : World) :
    Calls Try.prog 56 #[.int .i64 5] w fun e w' => e = .returned (.string ⟨#[99, 97, 114, 114, 121]⟩) ∧ Below w.heap.size w w' := by
  go_enter Try.func56, Try.ntmps56
  go_wp2
  go_ret
  exact ⟨rfl, balloc (Below.refl _ _) _⟩

set_option maxHeartbeats 1000000 in
set_option maxRecDepth 20000 in
theorem f56_6  (w : World) :
    Calls Try.prog 56 #[.int .i64 6] w fun e w' => e = .returned (.string ⟨#[99, 114, 101, 100, 105, 116]⟩) ∧ Below w.heap.size w w' := by
  go_enter Try.func56, Try.ntmps56
  go_wp2
  go_ret
  exact ⟨rfl, balloc (Below.refl _ _) _⟩

set_option maxHeartbeats 1000000 in
set_option maxRecDepth 20000 in
theorem f47_any  (w : World) :
    Calls Try.prog 47 #[] w fun e w' => e = .returned (.bool true) ∧ Below w.heap.size w w' := by
  go_enter Try.func47, Try.ntmps47
  go_wp2_with fail
  refine (f84_any _).mono ?_
  rintro e w1 ⟨rfl, hb1⟩
  have B1 : Below w.heap.size w w1 := bstep (by repeat (first | exact Below.refl _ _ | assumption | refine balloc ?_ _ | (refine bset ?_ (by simp; done) _) | (refine bset ?_ (by simp; omega) _))) hb1
  go_wp2_with fail
  refine (f48_is some2 10 ⟨2, 0, 0, 0⟩ true (by decide +kernel) _).mono ?_
  rintro e w2 ⟨rfl, hb2⟩
  have B2 := bstep B1 hb2
  clear hb2 B1
  go_wp2_with fail
  refine (f84_any _).mono ?_
  rintro e w3 ⟨rfl, hb3⟩
  have B3 := bstep (balloc B2 _) hb3
  have P3 := keepP (g := w2.heap.size) hb3 (p0 2 0 0 0 51 _ rfl)
  clear hb3 B2
  go_wp2_with fail
  refine (f50_is some2 ⟨4, 1, 0, 0⟩ 41 true (by decide +kernel) _).mono ?_
  rintro e w4 ⟨rfl, hb4⟩
  have B4 := bstep B3 hb4
  have P4 := keepP hb4 P3
  clear hb4 B3 P3
  go_wp2_with fail
  refine (f84_any _).mono ?_
  rintro e w5 ⟨rfl, hb5⟩
  have B5 := bstep B4 hb5
  have P5 := keepP hb5 P4
  clear hb5 B4 P4
  go_wp2_with fail
  refine (f52_is some2 25 (by decide +kernel) _).mono ?_
  rintro e w6 ⟨rfl, hb6⟩
  have B6 := bstep B5 hb6
  have P6 := keepP hb6 P5
  clear hb6 B5 P5
  go_wp2_with fail
  refine (f84_any _).mono ?_
  rintro e w7 ⟨rfl, hb7⟩
  have B7 := bstep B6 hb7
  have P7 := keepP hb7 P6
  clear hb7 B6 P6
  go_wp2_with fail
  refine (f54_is some2 100 (by decide +kernel) _).mono ?_
  rintro e w8 ⟨rfl, hb8⟩
  have B8 := bstep B7 hb8
  have P8 := keepP hb8 P7
  clear hb8 B7 P7
  have q1 : ∀ W, (binOp .eql 51 (.agg #[.int .i64 2, .int .i64 0, .int .i64 0, .int .i64 0]) (.agg #[.int .i64 2, .int .i64 0, .int .i64 0, .int .i64 0])).run Try.prog W = .ok (.bool true) W := fun W => eq51_run 2 0 0 0 2 0 0 0 W
  have q2 : ∀ W, (Op.equalIn 10000 51 (.agg #[.int .i64 2, .int .i64 0, .int .i64 0, .int .i64 0]) (.agg #[.int .i64 2, .int .i64 0, .int .i64 0, .int .i64 0])).run Try.prog W = .ok true W := fun W => run_eq51 2 0 0 0 2 0 0 0 W
  go_wp2_with fail
  refine (f56_6 _).mono ?_
  rintro e w9 ⟨rfl, hb9⟩
  have B9 := bstep B8 hb9
  go_wp2
  go_ret
  exact ⟨rfl, B9⟩

end Go.Proofs.Ytnbogjiddildaaa
