/- Contracts of config.Nodes and of the references' Check, Nodes. -/
import Derived.Test.YtnbogjiddildaaaB
namespace Go.Proofs.Ytnbogjiddildaaa
open Go.RowKit
set_option linter.unusedSimpArgs false
set_option linter.unusedVariables false

set_option maxHeartbeats 400000 in
theorem within04 (m n : Int) (r : Bool) (hr : (!outB m n) = r) (w : World) :
    Calls Try.prog 101 #[.int .i64 n, .int .i64 1, .int .i64 m] w fun e w' => e = .returned (.bool r) ∧ w = w' := by
  subst hr
  unfold outB
  by_cases h1 : 1 ≤ n
  · by_cases h2 : n ≤ m
    all_goals
      go_enter Try.func101, Try.ntmps101
      go_wp2
      go_ret
      exact ⟨by simp [h1, h2]; try omega, rfl⟩
  · go_enter Try.func101, Try.ntmps101
    go_wp2
    go_ret
    exact ⟨by simp [h1]; try omega, rfl⟩

theorem check_is (c : Cfg) (r : Int) (hr : chk c = r) (w : World) :
    Calls Try.prog 83 #[cv c] w fun e w' => e = .returned (.int .i64 r) ∧ Below w.heap.size w w' := by
  subst hr; exact check_any c w

set_option maxHeartbeats 1000000 in
theorem chk04_0 (c : Cfg) (HW : Hd (outB 64 c.W = true))  (w : World) :
    Calls Try.prog 97 #[cv c] w fun e w' => e = .returned (.int .i64 4) ∧ Below w.heap.size w w' := by
  go_enter Try.func97, Try.ntmps97
  go_wp2_with fail
  refine (within04 64 c.W false (by rw [HW.out]; rfl) _).mono ?_
  rintro e w1 ⟨rfl, rfl⟩
  go_wp2
  go_ret
  exact ⟨rfl, balloc (Below.refl _ _) _⟩

set_option maxHeartbeats 1000000 in
theorem chk04_1 (c : Cfg) (HW : Hd (outB 64 c.W = false)) (HH : Hd (outB 64 c.H = true))  (w : World) :
    Calls Try.prog 97 #[cv c] w fun e w' => e = .returned (.int .i64 4) ∧ Below w.heap.size w w' := by
  go_enter Try.func97, Try.ntmps97
  go_wp2_with fail
  refine (within04 64 c.W true (by rw [HW.out]; rfl) _).mono ?_
  rintro e w1 ⟨rfl, rfl⟩
  go_wp2_with fail
  refine (within04 64 c.H false (by rw [HH.out]; rfl) _).mono ?_
  rintro e w2 ⟨rfl, rfl⟩
  go_wp2
  go_ret
  exact ⟨rfl, balloc (Below.refl _ _) _⟩

set_option maxHeartbeats 1000000 in
theorem chk04_2 (c : Cfg) (HW : Hd (outB 64 c.W = false)) (HH : Hd (outB 64 c.H = false)) (HL : Hd (outB 8 c.L = true))  (w : World) :
    Calls Try.prog 97 #[cv c] w fun e w' => e = .returned (.int .i64 10) ∧ Below w.heap.size w w' := by
  go_enter Try.func97, Try.ntmps97
  go_wp2_with fail
  refine (within04 64 c.W true (by rw [HW.out]; rfl) _).mono ?_
  rintro e w1 ⟨rfl, rfl⟩
  go_wp2_with fail
  refine (within04 64 c.H true (by rw [HH.out]; rfl) _).mono ?_
  rintro e w2 ⟨rfl, rfl⟩
  go_wp2_with fail
  refine (within04 8 c.L false (by rw [HL.out]; rfl) _).mono ?_
  rintro e w3 ⟨rfl, rfl⟩
  go_wp2
  go_ret
  exact ⟨rfl, balloc (Below.refl _ _) _⟩

set_option maxHeartbeats 1000000 in
theorem chk04_c (c : Cfg) (HW : Hd (outB 64 c.W = false)) (HH : Hd (outB 64 c.H = false)) (HL : Hd (outB 8 c.L = false)) (hcs : c.cs = true) (hL : c.L < 2)  (w : World) :
    Calls Try.prog 97 #[cv c] w fun e w' => e = .returned (.int .i64 10) ∧ Below w.heap.size w w' := by
  go_enter Try.func97, Try.ntmps97
  go_wp2_with fail
  refine (within04 64 c.W true (by rw [HW.out]; rfl) _).mono ?_
  rintro e w1 ⟨rfl, rfl⟩
  go_wp2_with fail
  refine (within04 64 c.H true (by rw [HH.out]; rfl) _).mono ?_
  rintro e w2 ⟨rfl, rfl⟩
  go_wp2_with fail
  refine (within04 8 c.L true (by rw [HL.out]; rfl) _).mono ?_
  rintro e w3 ⟨rfl, rfl⟩
  go_wp2
  go_ret
  exact ⟨rfl, balloc (Below.refl _ _) _⟩

set_option maxHeartbeats 1000000 in
theorem chk04_30 (c : Cfg) (HW : Hd (outB 64 c.W = false)) (HH : Hd (outB 64 c.H = false)) (HL : Hd (outB 8 c.L = false)) (HD : Hd (outB 64 c.D = true)) (hcs : c.cs = false)  (w : World) :
    Calls Try.prog 97 #[cv c] w fun e w' => e = .returned (.int .i64 10) ∧ Below w.heap.size w w' := by
  go_enter Try.func97, Try.ntmps97
  go_wp2_with fail
  refine (within04 64 c.W true (by rw [HW.out]; rfl) _).mono ?_
  rintro e w1 ⟨rfl, rfl⟩
  go_wp2_with fail
  refine (within04 64 c.H true (by rw [HH.out]; rfl) _).mono ?_
  rintro e w2 ⟨rfl, rfl⟩
  go_wp2_with fail
  refine (within04 8 c.L true (by rw [HL.out]; rfl) _).mono ?_
  rintro e w3 ⟨rfl, rfl⟩
  go_wp2_with fail
  refine (within04 64 c.D false (by rw [HD.out]; rfl) _).mono ?_
  rintro e w4 ⟨rfl, rfl⟩
  go_wp2
  go_ret
  exact ⟨rfl, balloc (Below.refl _ _) _⟩

set_option maxHeartbeats 1000000 in
theorem chk04_40 (c : Cfg) (HW : Hd (outB 64 c.W = false)) (HH : Hd (outB 64 c.H = false)) (HL : Hd (outB 8 c.L = false)) (HD : Hd (outB 64 c.D = false)) (HR : Hd (outB 64 c.R = true)) (hcs : c.cs = false)  (w : World) :
    Calls Try.prog 97 #[cv c] w fun e w' => e = .returned (.int .i64 10) ∧ Below w.heap.size w w' := by
  go_enter Try.func97, Try.ntmps97
  go_wp2_with fail
  refine (within04 64 c.W true (by rw [HW.out]; rfl) _).mono ?_
  rintro e w1 ⟨rfl, rfl⟩
  go_wp2_with fail
  refine (within04 64 c.H true (by rw [HH.out]; rfl) _).mono ?_
  rintro e w2 ⟨rfl, rfl⟩
  go_wp2_with fail
  refine (within04 8 c.L true (by rw [HL.out]; rfl) _).mono ?_
  rintro e w3 ⟨rfl, rfl⟩
  go_wp2_with fail
  refine (within04 64 c.D true (by rw [HD.out]; rfl) _).mono ?_
  rintro e w4 ⟨rfl, rfl⟩
  go_wp2_with fail
  refine (within04 64 c.R false (by rw [HR.out]; rfl) _).mono ?_
  rintro e w5 ⟨rfl, rfl⟩
  go_wp2
  go_ret
  exact ⟨rfl, balloc (Below.refl _ _) _⟩

set_option maxHeartbeats 1000000 in
theorem chk04_50 (c : Cfg) (HW : Hd (outB 64 c.W = false)) (HH : Hd (outB 64 c.H = false)) (HL : Hd (outB 8 c.L = false)) (HD : Hd (outB 64 c.D = false)) (HR : Hd (outB 64 c.R = false)) (HI : Hd (outB 64 c.I = true)) (hcs : c.cs = false)  (w : World) :
    Calls Try.prog 97 #[cv c] w fun e w' => e = .returned (.int .i64 10) ∧ Below w.heap.size w w' := by
  go_enter Try.func97, Try.ntmps97
  go_wp2_with fail
  refine (within04 64 c.W true (by rw [HW.out]; rfl) _).mono ?_
  rintro e w1 ⟨rfl, rfl⟩
  go_wp2_with fail
  refine (within04 64 c.H true (by rw [HH.out]; rfl) _).mono ?_
  rintro e w2 ⟨rfl, rfl⟩
  go_wp2_with fail
  refine (within04 8 c.L true (by rw [HL.out]; rfl) _).mono ?_
  rintro e w3 ⟨rfl, rfl⟩
  go_wp2_with fail
  refine (within04 64 c.D true (by rw [HD.out]; rfl) _).mono ?_
  rintro e w4 ⟨rfl, rfl⟩
  go_wp2_with fail
  refine (within04 64 c.R true (by rw [HR.out]; rfl) _).mono ?_
  rintro e w5 ⟨rfl, rfl⟩
  go_wp2_with fail
  refine (within04 64 c.I false (by rw [HI.out]; rfl) _).mono ?_
  rintro e w6 ⟨rfl, rfl⟩
  go_wp2
  go_ret
  exact ⟨rfl, balloc (Below.refl _ _) _⟩

set_option maxHeartbeats 1000000 in
theorem chk04_60 (c : Cfg) (HW : Hd (outB 64 c.W = false)) (HH : Hd (outB 64 c.H = false)) (HL : Hd (outB 8 c.L = false)) (HD : Hd (outB 64 c.D = false)) (HR : Hd (outB 64 c.R = false)) (HI : Hd (outB 64 c.I = false)) (HB : Hd (outB 16 c.B = true)) (hcs : c.cs = false)  (w : World) :
    Calls Try.prog 97 #[cv c] w fun e w' => e = .returned (.int .i64 10) ∧ Below w.heap.size w w' := by
  go_enter Try.func97, Try.ntmps97
  go_wp2_with fail
  refine (within04 64 c.W true (by rw [HW.out]; rfl) _).mono ?_
  rintro e w1 ⟨rfl, rfl⟩
  go_wp2_with fail
  refine (within04 64 c.H true (by rw [HH.out]; rfl) _).mono ?_
  rintro e w2 ⟨rfl, rfl⟩
  go_wp2_with fail
  refine (within04 8 c.L true (by rw [HL.out]; rfl) _).mono ?_
  rintro e w3 ⟨rfl, rfl⟩
  go_wp2_with fail
  refine (within04 64 c.D true (by rw [HD.out]; rfl) _).mono ?_
  rintro e w4 ⟨rfl, rfl⟩
  go_wp2_with fail
  refine (within04 64 c.R true (by rw [HR.out]; rfl) _).mono ?_
  rintro e w5 ⟨rfl, rfl⟩
  go_wp2_with fail
  refine (within04 64 c.I true (by rw [HI.out]; rfl) _).mono ?_
  rintro e w6 ⟨rfl, rfl⟩
  go_wp2_with fail
  refine (within04 16 c.B false (by rw [HB.out]; rfl) _).mono ?_
  rintro e w7 ⟨rfl, rfl⟩
  go_wp2
  go_ret
  exact ⟨rfl, balloc (Below.refl _ _) _⟩

set_option maxHeartbeats 1000000 in
theorem chk04_ok0 (c : Cfg) (HW : Hd (outB 64 c.W = false)) (HH : Hd (outB 64 c.H = false)) (HL : Hd (outB 8 c.L = false)) (HD : Hd (outB 64 c.D = false)) (HR : Hd (outB 64 c.R = false)) (HI : Hd (outB 64 c.I = false)) (HB : Hd (outB 16 c.B = false)) (hcs : c.cs = false)  (w : World) :
    Calls Try.prog 97 #[cv c] w fun e w' => e = .returned (.int .i64 0) ∧ Below w.heap.size w w' := by
  go_enter Try.func97, Try.ntmps97
  go_wp2_with fail
  refine (within04 64 c.W true (by rw [HW.out]; rfl) _).mono ?_
  rintro e w1 ⟨rfl, rfl⟩
  go_wp2_with fail
  refine (within04 64 c.H true (by rw [HH.out]; rfl) _).mono ?_
  rintro e w2 ⟨rfl, rfl⟩
  go_wp2_with fail
  refine (within04 8 c.L true (by rw [HL.out]; rfl) _).mono ?_
  rintro e w3 ⟨rfl, rfl⟩
  go_wp2_with fail
  refine (within04 64 c.D true (by rw [HD.out]; rfl) _).mono ?_
  rintro e w4 ⟨rfl, rfl⟩
  go_wp2_with fail
  refine (within04 64 c.R true (by rw [HR.out]; rfl) _).mono ?_
  rintro e w5 ⟨rfl, rfl⟩
  go_wp2_with fail
  refine (within04 64 c.I true (by rw [HI.out]; rfl) _).mono ?_
  rintro e w6 ⟨rfl, rfl⟩
  go_wp2_with fail
  refine (within04 16 c.B true (by rw [HB.out]; rfl) _).mono ?_
  rintro e w7 ⟨rfl, rfl⟩
  go_wp2
  go_ret
  exact ⟨rfl, balloc (Below.refl _ _) _⟩

set_option maxHeartbeats 1000000 in
theorem chk04_31 (c : Cfg) (HW : Hd (outB 64 c.W = false)) (HH : Hd (outB 64 c.H = false)) (HL : Hd (outB 8 c.L = false)) (HD : Hd (outB 64 c.D = true)) (hcs : c.cs = true) (hL : 2 ≤ c.L)  (w : World) :
    Calls Try.prog 97 #[cv c] w fun e w' => e = .returned (.int .i64 10) ∧ Below w.heap.size w w' := by
  go_enter Try.func97, Try.ntmps97
  go_wp2_with fail
  refine (within04 64 c.W true (by rw [HW.out]; rfl) _).mono ?_
  rintro e w1 ⟨rfl, rfl⟩
  go_wp2_with fail
  refine (within04 64 c.H true (by rw [HH.out]; rfl) _).mono ?_
  rintro e w2 ⟨rfl, rfl⟩
  go_wp2_with fail
  refine (within04 8 c.L true (by rw [HL.out]; rfl) _).mono ?_
  rintro e w3 ⟨rfl, rfl⟩
  go_wp2_with fail
  refine (within04 64 c.D false (by rw [HD.out]; rfl) _).mono ?_
  rintro e w4 ⟨rfl, rfl⟩
  go_wp2
  go_ret
  exact ⟨rfl, balloc (Below.refl _ _) _⟩

set_option maxHeartbeats 1000000 in
theorem chk04_41 (c : Cfg) (HW : Hd (outB 64 c.W = false)) (HH : Hd (outB 64 c.H = false)) (HL : Hd (outB 8 c.L = false)) (HD : Hd (outB 64 c.D = false)) (HR : Hd (outB 64 c.R = true)) (hcs : c.cs = true) (hL : 2 ≤ c.L)  (w : World) :
    Calls Try.prog 97 #[cv c] w fun e w' => e = .returned (.int .i64 10) ∧ Below w.heap.size w w' := by
  go_enter Try.func97, Try.ntmps97
  go_wp2_with fail
  refine (within04 64 c.W true (by rw [HW.out]; rfl) _).mono ?_
  rintro e w1 ⟨rfl, rfl⟩
  go_wp2_with fail
  refine (within04 64 c.H true (by rw [HH.out]; rfl) _).mono ?_
  rintro e w2 ⟨rfl, rfl⟩
  go_wp2_with fail
  refine (within04 8 c.L true (by rw [HL.out]; rfl) _).mono ?_
  rintro e w3 ⟨rfl, rfl⟩
  go_wp2_with fail
  refine (within04 64 c.D true (by rw [HD.out]; rfl) _).mono ?_
  rintro e w4 ⟨rfl, rfl⟩
  go_wp2_with fail
  refine (within04 64 c.R false (by rw [HR.out]; rfl) _).mono ?_
  rintro e w5 ⟨rfl, rfl⟩
  go_wp2
  go_ret
  exact ⟨rfl, balloc (Below.refl _ _) _⟩

set_option maxHeartbeats 1000000 in
theorem chk04_51 (c : Cfg) (HW : Hd (outB 64 c.W = false)) (HH : Hd (outB 64 c.H = false)) (HL : Hd (outB 8 c.L = false)) (HD : Hd (outB 64 c.D = false)) (HR : Hd (outB 64 c.R = false)) (HI : Hd (outB 64 c.I = true)) (hcs : c.cs = true) (hL : 2 ≤ c.L)  (w : World) :
    Calls Try.prog 97 #[cv c] w fun e w' => e = .returned (.int .i64 10) ∧ Below w.heap.size w w' := by
  go_enter Try.func97, Try.ntmps97
  go_wp2_with fail
  refine (within04 64 c.W true (by rw [HW.out]; rfl) _).mono ?_
  rintro e w1 ⟨rfl, rfl⟩
  go_wp2_with fail
  refine (within04 64 c.H true (by rw [HH.out]; rfl) _).mono ?_
  rintro e w2 ⟨rfl, rfl⟩
  go_wp2_with fail
  refine (within04 8 c.L true (by rw [HL.out]; rfl) _).mono ?_
  rintro e w3 ⟨rfl, rfl⟩
  go_wp2_with fail
  refine (within04 64 c.D true (by rw [HD.out]; rfl) _).mono ?_
  rintro e w4 ⟨rfl, rfl⟩
  go_wp2_with fail
  refine (within04 64 c.R true (by rw [HR.out]; rfl) _).mono ?_
  rintro e w5 ⟨rfl, rfl⟩
  go_wp2_with fail
  refine (within04 64 c.I false (by rw [HI.out]; rfl) _).mono ?_
  rintro e w6 ⟨rfl, rfl⟩
  go_wp2
  go_ret
  exact ⟨rfl, balloc (Below.refl _ _) _⟩

set_option maxHeartbeats 1000000 in
theorem chk04_61 (c : Cfg) (HW : Hd (outB 64 c.W = false)) (HH : Hd (outB 64 c.H = false)) (HL : Hd (outB 8 c.L = false)) (HD : Hd (outB 64 c.D = false)) (HR : Hd (outB 64 c.R = false)) (HI : Hd (outB 64 c.I = false)) (HB : Hd (outB 16 c.B = true)) (hcs : c.cs = true) (hL : 2 ≤ c.L)  (w : World) :
    Calls Try.prog 97 #[cv c] w fun e w' => e = .returned (.int .i64 10) ∧ Below w.heap.size w w' := by
  go_enter Try.func97, Try.ntmps97
  go_wp2_with fail
  refine (within04 64 c.W true (by rw [HW.out]; rfl) _).mono ?_
  rintro e w1 ⟨rfl, rfl⟩
  go_wp2_with fail
  refine (within04 64 c.H true (by rw [HH.out]; rfl) _).mono ?_
  rintro e w2 ⟨rfl, rfl⟩
  go_wp2_with fail
  refine (within04 8 c.L true (by rw [HL.out]; rfl) _).mono ?_
  rintro e w3 ⟨rfl, rfl⟩
  go_wp2_with fail
  refine (within04 64 c.D true (by rw [HD.out]; rfl) _).mono ?_
  rintro e w4 ⟨rfl, rfl⟩
  go_wp2_with fail
  refine (within04 64 c.R true (by rw [HR.out]; rfl) _).mono ?_
  rintro e w5 ⟨rfl, rfl⟩
  go_wp2_with fail
  refine (within04 64 c.I true (by rw [HI.out]; rfl) _).mono ?_
  rintro e w6 ⟨rfl, rfl⟩
  go_wp2_with fail
  refine (within04 16 c.B false (by rw [HB.out]; rfl) _).mono ?_
  rintro e w7 ⟨rfl, rfl⟩
  go_wp2
  go_ret
  exact ⟨rfl, balloc (Below.refl _ _) _⟩

set_option maxHeartbeats 1000000 in
theorem chk04_ok1 (c : Cfg) (HW : Hd (outB 64 c.W = false)) (HH : Hd (outB 64 c.H = false)) (HL : Hd (outB 8 c.L = false)) (HD : Hd (outB 64 c.D = false)) (HR : Hd (outB 64 c.R = false)) (HI : Hd (outB 64 c.I = false)) (HB : Hd (outB 16 c.B = false)) (hcs : c.cs = true) (hL : 2 ≤ c.L)  (w : World) :
    Calls Try.prog 97 #[cv c] w fun e w' => e = .returned (.int .i64 0) ∧ Below w.heap.size w w' := by
  go_enter Try.func97, Try.ntmps97
  go_wp2_with fail
  refine (within04 64 c.W true (by rw [HW.out]; rfl) _).mono ?_
  rintro e w1 ⟨rfl, rfl⟩
  go_wp2_with fail
  refine (within04 64 c.H true (by rw [HH.out]; rfl) _).mono ?_
  rintro e w2 ⟨rfl, rfl⟩
  go_wp2_with fail
  refine (within04 8 c.L true (by rw [HL.out]; rfl) _).mono ?_
  rintro e w3 ⟨rfl, rfl⟩
  go_wp2_with fail
  refine (within04 64 c.D true (by rw [HD.out]; rfl) _).mono ?_
  rintro e w4 ⟨rfl, rfl⟩
  go_wp2_with fail
  refine (within04 64 c.R true (by rw [HR.out]; rfl) _).mono ?_
  rintro e w5 ⟨rfl, rfl⟩
  go_wp2_with fail
  refine (within04 64 c.I true (by rw [HI.out]; rfl) _).mono ?_
  rintro e w6 ⟨rfl, rfl⟩
  go_wp2_with fail
  refine (within04 16 c.B true (by rw [HB.out]; rfl) _).mono ?_
  rintro e w7 ⟨rfl, rfl⟩
  go_wp2
  go_ret
  exact ⟨rfl, balloc (Below.refl _ _) _⟩

theorem chk_of (c : Cfg) : chk c = (if outB 64 c.W = true then 4 else if outB 64 c.H = true then 4 else if outB 8 c.L = true then 10 else if c.cs = true ∧ c.L = 1 then 10 else
    if outB 64 c.D = true then 10 else if outB 64 c.R = true then 10 else if outB 64 c.I = true then 10 else if outB 16 c.B = true then 10 else 0) := by
  unfold chk
  rcases outB 64 c.W <;> rcases outB 64 c.H <;> rcases outB 8 c.L <;> rcases outB 64 c.D <;> rcases outB 64 c.R <;> rcases outB 64 c.I <;> rcases outB 16 c.B <;> rcases c.cs <;> simp

theorem check04_any (c : Cfg) (w : World) :
    Calls Try.prog 97 #[cv c] w fun e w' => e = .returned (.int .i64 (chk c)) ∧ Below w.heap.size w w' := by
  rw [chk_of]
  rcases hW : outB 64 c.W with _ | _
  · rcases hH : outB 64 c.H with _ | _
    · rcases hL : outB 8 c.L with _ | _
      · have hl := (outB_iff.1 hL).1
        rcases hcs : c.cs with _ | _
        · rcases hD : outB 64 c.D with _ | _
          · rcases hR : outB 64 c.R with _ | _
            · rcases hI : outB 64 c.I with _ | _
              · rcases hB : outB 16 c.B with _ | _
                · exact (chk04_ok0 c ⟨hW⟩ ⟨hH⟩ ⟨hL⟩ ⟨hD⟩ ⟨hR⟩ ⟨hI⟩ ⟨hB⟩ hcs w).mono (by simp)
                · exact (chk04_60 c ⟨hW⟩ ⟨hH⟩ ⟨hL⟩ ⟨hD⟩ ⟨hR⟩ ⟨hI⟩ ⟨hB⟩ hcs w).mono (by simp)
              · exact (chk04_50 c ⟨hW⟩ ⟨hH⟩ ⟨hL⟩ ⟨hD⟩ ⟨hR⟩ ⟨hI⟩ hcs w).mono (by simp)
            · exact (chk04_40 c ⟨hW⟩ ⟨hH⟩ ⟨hL⟩ ⟨hD⟩ ⟨hR⟩ hcs w).mono (by simp)
          · exact (chk04_30 c ⟨hW⟩ ⟨hH⟩ ⟨hL⟩ ⟨hD⟩ hcs w).mono (by simp)
        · by_cases h1 : c.L = 1
          · exact (chk04_c c ⟨hW⟩ ⟨hH⟩ ⟨hL⟩ hcs (by omega) w).mono (by simp [h1])
          · rcases hD : outB 64 c.D with _ | _
            · rcases hR : outB 64 c.R with _ | _
              · rcases hI : outB 64 c.I with _ | _
                · rcases hB : outB 16 c.B with _ | _
                  · exact (chk04_ok1 c ⟨hW⟩ ⟨hH⟩ ⟨hL⟩ ⟨hD⟩ ⟨hR⟩ ⟨hI⟩ ⟨hB⟩ hcs (by omega) w).mono (by simp [h1])
                  · exact (chk04_61 c ⟨hW⟩ ⟨hH⟩ ⟨hL⟩ ⟨hD⟩ ⟨hR⟩ ⟨hI⟩ ⟨hB⟩ hcs (by omega) w).mono (by simp [h1])
                · exact (chk04_51 c ⟨hW⟩ ⟨hH⟩ ⟨hL⟩ ⟨hD⟩ ⟨hR⟩ ⟨hI⟩ hcs (by omega) w).mono (by simp [h1])
              · exact (chk04_41 c ⟨hW⟩ ⟨hH⟩ ⟨hL⟩ ⟨hD⟩ ⟨hR⟩ hcs (by omega) w).mono (by simp [h1])
            · exact (chk04_31 c ⟨hW⟩ ⟨hH⟩ ⟨hL⟩ ⟨hD⟩ hcs (by omega) w).mono (by simp [h1])
      · exact (chk04_2 c ⟨hW⟩ ⟨hH⟩ ⟨hL⟩ w).mono (by simp)
    · exact (chk04_1 c ⟨hW⟩ ⟨hH⟩ w).mono (by simp)
  · exact (chk04_0 c ⟨hW⟩ w).mono (by simp)

theorem check04_is (c : Cfg) (r : Int) (hr : chk c = r) (w : World) :
    Calls Try.prog 97 #[cv c] w fun e w' => e = .returned (.int .i64 r) ∧ Below w.heap.size w w' := by
  subst hr; exact check04_any c w

set_option maxHeartbeats 1000000 in
theorem f80_ok (c : Cfg) (h : chk c = 0) (w : World) :
    Calls Try.prog 80 #[cv c] w fun e w' => e = .returned (.int .i64 (nodes c)) ∧ Below w.heap.size w w' := by
  have HN := Hd.mk (nodes_ok h)
  have hbd := wh_bd (chk_okc h)
  have HW : IntKind.i64.wrap (c.W * c.H) = c.W * c.H := IntWalk.i64_in _ (by omega)
  have HC := Hd.mk h
  clear h
  go_enter Try.func80, Try.ntmps80
  go_wp2_with fail
  refine (check_is c 0 HC.out _).mono ?_
  rintro e w1 ⟨rfl, hb1⟩
  have B1 : Below w.heap.size w w1 := bstep (by repeat (first | exact Below.refl _ _ | assumption | refine balloc ?_ _ | (refine bset ?_ (by simp; done) _) | (refine bset ?_ (by simp; omega) _))) hb1
  have hz1 : w.heap.size < w1.heap.size := by have := hb1.size; simp at this; omega
  obtain ⟨hc1, hf1⟩ := bcell hb1
  go_wp2
  go_ret
  exact ⟨ret_int (by rw [HN.out]), B1⟩

set_option maxHeartbeats 1000000 in
theorem f80_no (c : Cfg) (h : chk c ≠ 0) (w : World) :
    Calls Try.prog 80 #[cv c] w fun e w' => e = .returned (.int .i64 (nodes c)) ∧ Below w.heap.size w w' := by
  have HN := Hd.mk (nodes_no h)
  have hx : (chk c != 0) = true := by simpa using h
  clear h
  go_enter Try.func80, Try.ntmps80
  go_wp2_with fail
  refine (check_is c (chk c) rfl _).mono ?_
  rintro e w1 ⟨rfl, hb1⟩
  have B1 : Below w.heap.size w w1 := bstep (by repeat (first | exact Below.refl _ _ | assumption | refine balloc ?_ _ | (refine bset ?_ (by simp; done) _) | (refine bset ?_ (by simp; omega) _))) hb1
  have hz1 : w.heap.size < w1.heap.size := by have := hb1.size; simp at this; omega
  obtain ⟨hc1, hf1⟩ := bcell hb1
  go_wp2
  go_ret
  exact ⟨ret_int (by rw [HN.out]), B1⟩

theorem f80_any (c : Cfg) (w : World) :
    Calls Try.prog 80 #[cv c] w fun e w' => e = .returned (.int .i64 (nodes c)) ∧ Below w.heap.size w w' := by
  by_cases h : chk c = 0
  · exact f80_ok c h w
  · exact f80_no c h w

set_option maxHeartbeats 1000000 in
theorem f81_ok (c : Cfg) (h : chk c = 0) (w : World) :
    Calls Try.prog 81 #[cv c] w fun e w' => e = .returned (.int .i64 (nodes c)) ∧ Below w.heap.size w w' := by
  have HN := Hd.mk (nodes_ok h)
  have hbd := wh_bd (chk_okc h)
  have HW : IntKind.i64.wrap (c.W * c.H) = c.W * c.H := IntWalk.i64_in _ (by omega)
  have HC := Hd.mk h
  clear h
  go_enter Try.func81, Try.ntmps81
  go_wp2_with fail
  refine (check04_is c 0 HC.out _).mono ?_
  rintro e w1 ⟨rfl, hb1⟩
  have B1 : Below w.heap.size w w1 := bstep (by repeat (first | exact Below.refl _ _ | assumption | refine balloc ?_ _ | (refine bset ?_ (by simp; done) _) | (refine bset ?_ (by simp; omega) _))) hb1
  have hz1 : w.heap.size < w1.heap.size := by have := hb1.size; simp at this; omega
  obtain ⟨hc1, hf1⟩ := bcell hb1
  go_wp2
  go_ret
  exact ⟨ret_int (by rw [HN.out]), B1⟩

set_option maxHeartbeats 1000000 in
theorem f81_no (c : Cfg) (h : chk c ≠ 0) (w : World) :
    Calls Try.prog 81 #[cv c] w fun e w' => e = .returned (.int .i64 (nodes c)) ∧ Below w.heap.size w w' := by
  have HN := Hd.mk (nodes_no h)
  have hx : (chk c != 0) = true := by simpa using h
  clear h
  go_enter Try.func81, Try.ntmps81
  go_wp2_with fail
  refine (check04_is c (chk c) rfl _).mono ?_
  rintro e w1 ⟨rfl, hb1⟩
  have B1 : Below w.heap.size w w1 := bstep (by repeat (first | exact Below.refl _ _ | assumption | refine balloc ?_ _ | (refine bset ?_ (by simp; done) _) | (refine bset ?_ (by simp; omega) _))) hb1
  have hz1 : w.heap.size < w1.heap.size := by have := hb1.size; simp at this; omega
  obtain ⟨hc1, hf1⟩ := bcell hb1
  go_wp2
  go_ret
  exact ⟨ret_int (by rw [HN.out]), B1⟩

theorem f81_any (c : Cfg) (w : World) :
    Calls Try.prog 81 #[cv c] w fun e w' => e = .returned (.int .i64 (nodes c)) ∧ Below w.heap.size w w' := by
  by_cases h : chk c = 0
  · exact f81_ok c h w
  · exact f81_no c h w

end Go.Proofs.Ytnbogjiddildaaa
