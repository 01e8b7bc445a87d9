/- Contract of the reference's Allowed; the walk of the law TurnAllowed. -/
import Derived.Test.YtnbogjiddildaaaT8
namespace Go.Proofs.Ytnbogjiddildaaa
open Go.RowKit
set_option linter.unusedSimpArgs false
set_option linter.unusedVariables false

set_option maxHeartbeats 1000000 in
set_option maxRecDepth 20000 in
theorem f65_f0 (f t : Int) (h : f < 0) (w : World) :
    Calls Try.prog 65 #[.int .i64 f, .int .i64 t] w fun e w' => e = .returned (.bool (allowP f t)) ∧ Below w.heap.size w w' := by
  have HA : Hd (allowP f t = false) := ⟨by unfold allowP portB; rw [if_neg (by simp; omega)]⟩
  go_enter Try.func65, Try.ntmps65
  go_wp2
  go_ret
  exact ⟨ret_bool HA.out.symm, Below.refl _ _⟩

set_option maxHeartbeats 1000000 in
set_option maxRecDepth 20000 in
theorem f65_f1 (f t : Int) (h : 4 < f) (w : World) :
    Calls Try.prog 65 #[.int .i64 f, .int .i64 t] w fun e w' => e = .returned (.bool (allowP f t)) ∧ Below w.heap.size w w' := by
  have HA : Hd (allowP f t = false) := ⟨by unfold allowP portB; rw [if_neg (by simp; omega)]⟩
  have hn : ¬ f < 0 := by omega
  go_enter Try.func65, Try.ntmps65
  go_wp2
  go_ret
  exact ⟨ret_bool HA.out.symm, Below.refl _ _⟩

set_option maxHeartbeats 1000000 in
set_option maxRecDepth 20000 in
theorem f65_t0 (f t : Int) (f0 : 0 ≤ f) (f4 : f ≤ 4) (h : t < 0) (w : World) :
    Calls Try.prog 65 #[.int .i64 f, .int .i64 t] w fun e w' => e = .returned (.bool (allowP f t)) ∧ Below w.heap.size w w' := by
  have HA : Hd (allowP f t = false) := ⟨by unfold allowP portB; rw [if_neg (by simp; omega)]⟩
  go_enter Try.func65, Try.ntmps65
  go_wp2
  go_ret
  exact ⟨ret_bool HA.out.symm, Below.refl _ _⟩

set_option maxHeartbeats 1000000 in
set_option maxRecDepth 20000 in
theorem f65_t1 (f t : Int) (f0 : 0 ≤ f) (f4 : f ≤ 4) (h : 4 < t) (w : World) :
    Calls Try.prog 65 #[.int .i64 f, .int .i64 t] w fun e w' => e = .returned (.bool (allowP f t)) ∧ Below w.heap.size w w' := by
  have HA : Hd (allowP f t = false) := ⟨by unfold allowP portB; rw [if_neg (by simp; omega)]⟩
  have hn : ¬ t < 0 := by omega
  go_enter Try.func65, Try.ntmps65
  go_wp2
  go_ret
  exact ⟨ret_bool HA.out.symm, Below.refl _ _⟩

set_option maxHeartbeats 1000000 in
set_option maxRecDepth 20000 in
theorem f65_00  (w : World) :
    Calls Try.prog 65 #[.int .i64 0, .int .i64 0] w fun e w' => e = .returned (.bool (allowP 0 0)) ∧ Below w.heap.size w w' := by
  go_enter Try.func65, Try.ntmps65
  go_wp2
  go_ret
  exact ⟨rfl, Below.refl _ _⟩

set_option maxHeartbeats 1000000 in
set_option maxRecDepth 20000 in
theorem f65_01  (w : World) :
    Calls Try.prog 65 #[.int .i64 0, .int .i64 1] w fun e w' => e = .returned (.bool (allowP 0 1)) ∧ Below w.heap.size w w' := by
  go_enter Try.func65, Try.ntmps65
  go_wp2
  go_ret
  exact ⟨rfl, Below.refl _ _⟩

set_option maxHeartbeats 1000000 in
set_option maxRecDepth 20000 in
theorem f65_02  (w : World) :
    Calls Try.prog 65 #[.int .i64 0, .int .i64 2] w fun e w' => e = .returned (.bool (allowP 0 2)) ∧ Below w.heap.size w w' := by
  go_enter Try.func65, Try.ntmps65
  go_wp2
  go_ret
  exact ⟨rfl, Below.refl _ _⟩

set_option maxHeartbeats 1000000 in
set_option maxRecDepth 20000 in
theorem f65_03  (w : World) :
    Calls Try.prog 65 #[.int .i64 0, .int .i64 3] w fun e w' => e = .returned (.bool (allowP 0 3)) ∧ Below w.heap.size w w' := by
  go_enter Try.func65, Try.ntmps65
  go_wp2
  go_ret
  exact ⟨rfl, Below.refl _ _⟩

set_option maxHeartbeats 1000000 in
set_option maxRecDepth 20000 in
theorem f65_04  (w : World) :
    Calls Try.prog 65 #[.int .i64 0, .int .i64 4] w fun e w' => e = .returned (.bool (allowP 0 4)) ∧ Below w.heap.size w w' := by
  go_enter Try.func65, Try.ntmps65
  go_wp2
  go_ret
  exact ⟨rfl, Below.refl _ _⟩

set_option maxHeartbeats 1000000 in
set_option maxRecDepth 20000 in
theorem f65_10  (w : World) :
    Calls Try.prog 65 #[.int .i64 1, .int .i64 0] w fun e w' => e = .returned (.bool (allowP 1 0)) ∧ Below w.heap.size w w' := by
  go_enter Try.func65, Try.ntmps65
  go_wp2
  go_ret
  exact ⟨rfl, Below.refl _ _⟩

set_option maxHeartbeats 1000000 in
set_option maxRecDepth 20000 in
theorem f65_11  (w : World) :
    Calls Try.prog 65 #[.int .i64 1, .int .i64 1] w fun e w' => e = .returned (.bool (allowP 1 1)) ∧ Below w.heap.size w w' := by
  go_enter Try.func65, Try.ntmps65
  go_wp2_with fail
  refine (f44_any 1 _).mono ?_
  rintro e w1 ⟨rfl, hb1⟩
  simp only [show backP 1 = 2 from rfl]
  go_wp2
  go_ret
  exact ⟨rfl, hb1⟩

set_option maxHeartbeats 1000000 in
set_option maxRecDepth 20000 in
theorem f65_12  (w : World) :
    Calls Try.prog 65 #[.int .i64 1, .int .i64 2] w fun e w' => e = .returned (.bool (allowP 1 2)) ∧ Below w.heap.size w w' := by
  go_enter Try.func65, Try.ntmps65
  go_wp2
  go_ret
  exact ⟨rfl, Below.refl _ _⟩

set_option maxHeartbeats 1000000 in
set_option maxRecDepth 20000 in
theorem f65_13  (w : World) :
    Calls Try.prog 65 #[.int .i64 1, .int .i64 3] w fun e w' => e = .returned (.bool (allowP 1 3)) ∧ Below w.heap.size w w' := by
  go_enter Try.func65, Try.ntmps65
  go_wp2_with fail
  refine (f44_any 3 _).mono ?_
  rintro e w1 ⟨rfl, hb1⟩
  simp only [show backP 3 = 4 from rfl]
  go_wp2
  go_ret
  exact ⟨rfl, hb1⟩

set_option maxHeartbeats 1000000 in
set_option maxRecDepth 20000 in
theorem f65_14  (w : World) :
    Calls Try.prog 65 #[.int .i64 1, .int .i64 4] w fun e w' => e = .returned (.bool (allowP 1 4)) ∧ Below w.heap.size w w' := by
  go_enter Try.func65, Try.ntmps65
  go_wp2_with fail
  refine (f44_any 4 _).mono ?_
  rintro e w1 ⟨rfl, hb1⟩
  simp only [show backP 4 = 3 from rfl]
  go_wp2
  go_ret
  exact ⟨rfl, hb1⟩

set_option maxHeartbeats 1000000 in
set_option maxRecDepth 20000 in
theorem f65_20  (w : World) :
    Calls Try.prog 65 #[.int .i64 2, .int .i64 0] w fun e w' => e = .returned (.bool (allowP 2 0)) ∧ Below w.heap.size w w' := by
  go_enter Try.func65, Try.ntmps65
  go_wp2
  go_ret
  exact ⟨rfl, Below.refl _ _⟩

set_option maxHeartbeats 1000000 in
set_option maxRecDepth 20000 in
theorem f65_21  (w : World) :
    Calls Try.prog 65 #[.int .i64 2, .int .i64 1] w fun e w' => e = .returned (.bool (allowP 2 1)) ∧ Below w.heap.size w w' := by
  go_enter Try.func65, Try.ntmps65
  go_wp2_with fail
  refine (f44_any 1 _).mono ?_
  rintro e w1 ⟨rfl, hb1⟩
  simp only [show backP 1 = 2 from rfl]
  go_wp2
  go_ret
  exact ⟨rfl, hb1⟩

set_option maxHeartbeats 1000000 in
set_option maxRecDepth 20000 in
theorem f65_22  (w : World) :
    Calls Try.prog 65 #[.int .i64 2, .int .i64 2] w fun e w' => e = .returned (.bool (allowP 2 2)) ∧ Below w.heap.size w w' := by
  go_enter Try.func65, Try.ntmps65
  go_wp2
  go_ret
  exact ⟨rfl, Below.refl _ _⟩

set_option maxHeartbeats 1000000 in
set_option maxRecDepth 20000 in
theorem f65_23  (w : World) :
    Calls Try.prog 65 #[.int .i64 2, .int .i64 3] w fun e w' => e = .returned (.bool (allowP 2 3)) ∧ Below w.heap.size w w' := by
  go_enter Try.func65, Try.ntmps65
  go_wp2_with fail
  refine (f44_any 3 _).mono ?_
  rintro e w1 ⟨rfl, hb1⟩
  simp only [show backP 3 = 4 from rfl]
  go_wp2
  go_ret
  exact ⟨rfl, hb1⟩

set_option maxHeartbeats 1000000 in
set_option maxRecDepth 20000 in
theorem f65_24  (w : World) :
    Calls Try.prog 65 #[.int .i64 2, .int .i64 4] w fun e w' => e = .returned (.bool (allowP 2 4)) ∧ Below w.heap.size w w' := by
  go_enter Try.func65, Try.ntmps65
  go_wp2_with fail
  refine (f44_any 4 _).mono ?_
  rintro e w1 ⟨rfl, hb1⟩
  simp only [show backP 4 = 3 from rfl]
  go_wp2
  go_ret
  exact ⟨rfl, hb1⟩

set_option maxHeartbeats 1000000 in
set_option maxRecDepth 20000 in
theorem f65_30  (w : World) :
    Calls Try.prog 65 #[.int .i64 3, .int .i64 0] w fun e w' => e = .returned (.bool (allowP 3 0)) ∧ Below w.heap.size w w' := by
  go_enter Try.func65, Try.ntmps65
  go_wp2
  go_ret
  exact ⟨rfl, Below.refl _ _⟩

set_option maxHeartbeats 1000000 in
set_option maxRecDepth 20000 in
theorem f65_31  (w : World) :
    Calls Try.prog 65 #[.int .i64 3, .int .i64 1] w fun e w' => e = .returned (.bool (allowP 3 1)) ∧ Below w.heap.size w w' := by
  go_enter Try.func65, Try.ntmps65
  go_wp2_with fail
  refine (f44_any 1 _).mono ?_
  rintro e w1 ⟨rfl, hb1⟩
  simp only [show backP 1 = 2 from rfl]
  go_wp2
  go_ret
  exact ⟨rfl, hb1⟩

set_option maxHeartbeats 1000000 in
set_option maxRecDepth 20000 in
theorem f65_32  (w : World) :
    Calls Try.prog 65 #[.int .i64 3, .int .i64 2] w fun e w' => e = .returned (.bool (allowP 3 2)) ∧ Below w.heap.size w w' := by
  go_enter Try.func65, Try.ntmps65
  go_wp2
  go_ret
  exact ⟨rfl, Below.refl _ _⟩

set_option maxHeartbeats 1000000 in
set_option maxRecDepth 20000 in
theorem f65_33  (w : World) :
    Calls Try.prog 65 #[.int .i64 3, .int .i64 3] w fun e w' => e = .returned (.bool (allowP 3 3)) ∧ Below w.heap.size w w' := by
  go_enter Try.func65, Try.ntmps65
  go_wp2_with fail
  refine (f44_any 3 _).mono ?_
  rintro e w1 ⟨rfl, hb1⟩
  simp only [show backP 3 = 4 from rfl]
  go_wp2
  go_ret
  exact ⟨rfl, hb1⟩

set_option maxHeartbeats 1000000 in
set_option maxRecDepth 20000 in
theorem f65_34  (w : World) :
    Calls Try.prog 65 #[.int .i64 3, .int .i64 4] w fun e w' => e = .returned (.bool (allowP 3 4)) ∧ Below w.heap.size w w' := by
  go_enter Try.func65, Try.ntmps65
  go_wp2_with fail
  refine (f44_any 4 _).mono ?_
  rintro e w1 ⟨rfl, hb1⟩
  simp only [show backP 4 = 3 from rfl]
  go_wp2
  go_ret
  exact ⟨rfl, hb1⟩

set_option maxHeartbeats 1000000 in
set_option maxRecDepth 20000 in
theorem f65_40  (w : World) :
    Calls Try.prog 65 #[.int .i64 4, .int .i64 0] w fun e w' => e = .returned (.bool (allowP 4 0)) ∧ Below w.heap.size w w' := by
  go_enter Try.func65, Try.ntmps65
  go_wp2
  go_ret
  exact ⟨rfl, Below.refl _ _⟩

set_option maxHeartbeats 1000000 in
set_option maxRecDepth 20000 in
theorem f65_41  (w : World) :
    Calls Try.prog 65 #[.int .i64 4, .int .i64 1] w fun e w' => e = .returned (.bool (allowP 4 1)) ∧ Below w.heap.size w w' := by
  go_enter Try.func65, Try.ntmps65
  go_wp2_with fail
  refine (f44_any 1 _).mono ?_
  rintro e w1 ⟨rfl, hb1⟩
  simp only [show backP 1 = 2 from rfl]
  go_wp2
  go_ret
  exact ⟨rfl, hb1⟩

set_option maxHeartbeats 1000000 in
set_option maxRecDepth 20000 in
theorem f65_42  (w : World) :
    Calls Try.prog 65 #[.int .i64 4, .int .i64 2] w fun e w' => e = .returned (.bool (allowP 4 2)) ∧ Below w.heap.size w w' := by
  go_enter Try.func65, Try.ntmps65
  go_wp2
  go_ret
  exact ⟨rfl, Below.refl _ _⟩

set_option maxHeartbeats 1000000 in
set_option maxRecDepth 20000 in
theorem f65_43  (w : World) :
    Calls Try.prog 65 #[.int .i64 4, .int .i64 3] w fun e w' => e = .returned (.bool (allowP 4 3)) ∧ Below w.heap.size w w' := by
  go_enter Try.func65, Try.ntmps65
  go_wp2_with fail
  refine (f44_any 3 _).mono ?_
  rintro e w1 ⟨rfl, hb1⟩
  simp only [show backP 3 = 4 from rfl]
  go_wp2
  go_ret
  exact ⟨rfl, hb1⟩

set_option maxHeartbeats 1000000 in
set_option maxRecDepth 20000 in
theorem f65_44  (w : World) :
    Calls Try.prog 65 #[.int .i64 4, .int .i64 4] w fun e w' => e = .returned (.bool (allowP 4 4)) ∧ Below w.heap.size w w' := by
  go_enter Try.func65, Try.ntmps65
  go_wp2_with fail
  refine (f44_any 4 _).mono ?_
  rintro e w1 ⟨rfl, hb1⟩
  simp only [show backP 4 = 3 from rfl]
  go_wp2
  go_ret
  exact ⟨rfl, hb1⟩

theorem f65_any (f t : Int) (w : World) :
    Calls Try.prog 65 #[.int .i64 f, .int .i64 t] w fun e w' => e = .returned (.bool (allowP f t)) ∧ Below w.heap.size w w' := by
  rcases (by omega : f < 0 ∨ 4 < f ∨ 0 ≤ f ∧ f ≤ 4) with h | h | ⟨f0, f4⟩
  · exact f65_f0 f t h w
  · exact f65_f1 f t h w
  · rcases (by omega : t < 0 ∨ 4 < t ∨ 0 ≤ t ∧ t ≤ 4) with h | h | ⟨t0, t4⟩
    · exact f65_t0 f t f0 f4 h w
    · exact f65_t1 f t f0 f4 h w
    · have h1 : f = 0 ∨ f = 1 ∨ f = 2 ∨ f = 3 ∨ f = 4 := by omega
      have h2 : t = 0 ∨ t = 1 ∨ t = 2 ∨ t = 3 ∨ t = 4 := by omega
      rcases h1 with rfl | rfl | rfl | rfl | rfl
      · rcases h2 with rfl | rfl | rfl | rfl | rfl
        · exact f65_00 w
        · exact f65_01 w
        · exact f65_02 w
        · exact f65_03 w
        · exact f65_04 w
      · rcases h2 with rfl | rfl | rfl | rfl | rfl
        · exact f65_10 w
        · exact f65_11 w
        · exact f65_12 w
        · exact f65_13 w
        · exact f65_14 w
      · rcases h2 with rfl | rfl | rfl | rfl | rfl
        · exact f65_20 w
        · exact f65_21 w
        · exact f65_22 w
        · exact f65_23 w
        · exact f65_24 w
      · rcases h2 with rfl | rfl | rfl | rfl | rfl
        · exact f65_30 w
        · exact f65_31 w
        · exact f65_32 w
        · exact f65_33 w
        · exact f65_34 w
      · rcases h2 with rfl | rfl | rfl | rfl | rfl
        · exact f65_40 w
        · exact f65_41 w
        · exact f65_42 w
        · exact f65_43 w
        · exact f65_44 w
theorem f65_is (f t : Int) (b : Bool) (h : allowP f t = b) (w : World) : Calls Try.prog 65 #[.int .i64 f, .int .i64 t] w fun e w' => e = .returned (.bool b) ∧ Below w.heap.size w w' := by
  subst h; exact f65_any f t w

theorem str_bd (c : Cfg) (a b : Int) : (strP c a b).length ≤ 127 := by
  by_cases h : isB c a = true ∧ isB c b = true
  · have h1 := str_len h.1 h.2
    have h2 := far_bd h.1 h.2
    omega
  · rw [str_no h]; simp
theorem f66_is (c : Cfg) (a b : Int) (xs : List Int) (h : strP (xf c) a b = xs) (w : World) : Calls Try.prog 66 #[cv c, .int .i64 a, .int .i64 b] w fun e w' => ∃ A n cap, e = .returned (.slice A n cap) ∧ n = xs.length ∧ n ≤ cap ∧ Rd w' A xs ∧ Below w.heap.size w w' := by
  subst h; exact f66_any c a b w
theorem f67_is (c : Cfg) (a b : Int) (xs : List Int) (h : strP (xf c) a b = xs) (w : World) : Calls Try.prog 67 #[cv c, .int .i64 a, .int .i64 b] w fun e w' => ∃ A n cap, e = .returned (.slice A n cap) ∧ n = xs.length ∧ n ≤ cap ∧ Rd w' A xs ∧ Below w.heap.size w w' := by
  subst h; exact f67_any c a b w

set_option maxHeartbeats 1000000 in
set_option maxRecDepth 20000 in
theorem law17_go (f t : Int) (c : Cfg) (w : World) :
    Calls Try.prog 17 #[.int .i64 f, .int .i64 t, cv c] w fun e w' => e = .returned (.bool true) ∧ Below w.heap.size w w' := by
  obtain ⟨xs, HXS⟩ : ∃ z, Hd (strP (xf c) f t = z) := ⟨_, ⟨rfl⟩⟩
  have hxl := str_bd (xf c) f t
  rw [HXS.out] at hxl
  have HXL := Hd.mk hxl
  clear hxl
  obtain ⟨b, HB⟩ : ∃ z, Hd (allowP f t = z) := ⟨_, ⟨rfl⟩⟩
  go_enter Try.func17, Try.ntmps17
  go_wp2_with fail
  refine (f57_any _).mono ?_
  rintro e w1 ⟨rfl, hb1⟩
  have S1 := keepS hb1 (s0 c w)
  clear hb1
  rcases b
  all_goals
    go_wp2_with fail
    have HS2 := Hd.mk S1
    clear S1
    go_region_held3 (fun W => W.cell? ⟨w.heap.size, 0, none⟩ = some (.int .i64 c.W) ∧ W.cell? ⟨w.heap.size, 1, none⟩ = some (.int .i64 c.H) ∧ W.cell? ⟨w.heap.size, 2, none⟩ = some (.int .i64 c.L) ∧ W.cell? ⟨w.heap.size, 3, none⟩ = some (.int .i64 c.D) ∧ W.cell? ⟨w.heap.size, 4, none⟩ = some (.int .i64 c.R) ∧ W.cell? ⟨w.heap.size, 5, none⟩ = some (.int .i64 c.I) ∧ W.cell? ⟨w.heap.size, 6, none⟩ = some (.int .i64 c.B) ∧ W.cell? ⟨w.heap.size, 7, none⟩ = some (.bool c.ws) ∧ W.cell? ⟨w.heap.size, 8, none⟩ = some (.bool c.cs) ∧ w.heap.size < W.heap.size ∧ Below w.heap.size w W) (first | exact dS HS2.out | exact keepS (by assumption) (by assumption))
      (first | (go_at_call 64; refine (f64_is f t _ HB.out _).mono ?_; rintro e wq ⟨rfl, hbq⟩) | (go_at_call 65; refine (f65_is f t _ HB.out _).mono ?_; rintro e wq ⟨rfl, hbq⟩) | (go_at_call 66; (with_reducible refine (f66_is c f t xs HXS.out _).mono ?_); rintro e wc ⟨A, _, cA, rfl, rfl, hcA, hrA, hbq⟩; have HC := Hd.mk hrA; clear hrA) | (go_at_call 67; (with_reducible refine (f67_is c f t xs HXS.out _).mono ?_); rintro e wd ⟨B, _, cB, rfl, rfl, hcB, hrB, hbq⟩; have HC2 := Hd.mk (Rd.below HC.out hbq); have HD := Hd.mk hrB; clear hrB) | (go_at_call 28; refine (f28_eq A B cA cB xs (by have := HXL.out; omega) _ HC2.out HD.out).mono ?_; rintro e we ⟨rfl, hbq⟩))
    rename_i S2
    clear HS2
    go_wp2
    go_ret
    exact ⟨rfl, sB S2⟩

theorem law17_calls (f : Int) (_ : -9223372036854775808 ≤ f ∧ f ≤ 9223372036854775807) (t : Int) (_ : -9223372036854775808 ≤ t ∧ t ≤ 9223372036854775807) (c : Cfg) (w : World) :
    Calls Try.prog 17 #[.int .i64 f, .int .i64 t, cv c] w fun e w' => e = .returned (.bool true) ∧ Below w.heap.size w w' := law17_go f t c w

end Go.Proofs.Ytnbogjiddildaaa
