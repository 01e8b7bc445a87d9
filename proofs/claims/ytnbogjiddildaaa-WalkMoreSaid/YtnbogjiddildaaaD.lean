/- Contracts of grid's and the reference's Is, At, Place, X, Y, Back. -/
import Derived.Test.YtnbogjiddildaaaC
import Derived.Deep.QuietTactic
import Derived.BigQuiet
namespace Go.Proofs.Ytnbogjiddildaaa
open Go.RowKit
set_option linter.unusedSimpArgs false
set_option linter.unusedVariables false

theorem bdrewN {w W : World} (h : Below w.heap.size w W) (q : Nat) : Below w.heap.size w (W.drewN q) := ⟨h.os, h.tape, h.output, h.size, h.block⟩
theorem bdrew {w W : World} (h : Below w.heap.size w W) : Below w.heap.size w W.drew := h.drew
theorem ret2_ii {a b x y : Int} (h : (a, b) = (x, y)) : Ending.returned (.tuple #[.int .i64 x, .int .i64 y]) = .returned (.tuple #[.int .i64 a, .int .i64 b]) := by injection h with h1 h2; rw [h1, h2]
theorem ret2_ib {a x : Int} {b y : Bool} (h : (a, b) = (x, y)) : Ending.returned (.tuple #[.int .i64 x, .bool y]) = .returned (.tuple #[.int .i64 a, .bool b]) := by injection h with h1 h2; rw [h1, h2]
theorem ret3_iii {a b c x y z : Int} (h : (a, b, c) = (x, y, z)) : Ending.returned (.tuple #[.int .i64 x, .int .i64 y, .int .i64 z]) = .returned (.tuple #[.int .i64 a, .int .i64 b, .int .i64 c]) := by
  injection h with h1 h2; injection h2 with h2 h3; rw [h1, h2, h3]

set_option maxHeartbeats 1000000 in
theorem f42_any (c : Cfg) (n : Int) (w : World) :
    Calls Try.prog 42 #[cv c, .int .i64 n] w fun e w' => e = .returned (.bool (isB c n)) ∧ Below w.heap.size w w' := by
  by_cases h0 : 0 ≤ n
  · have H0 := Hd.mk h0
    go_enter Try.func42, Try.ntmps42
    go_wp2_with fail
    refine (f80_any c _).mono ?_
    rintro e w1 ⟨rfl, hb1⟩
    have B1 : Below w.heap.size w w1 := bstep (by repeat (first | exact Below.refl _ _ | assumption | refine balloc ?_ _ | (refine bset ?_ (by simp; done) _) | (refine bset ?_ (by simp; omega) _))) hb1
    have hz1 : w.heap.size < w1.heap.size := by have := hb1.size; simp at this; omega
    obtain ⟨hc1, hf1⟩ := bcell hb1
    go_wp2
    go_ret
    exact ⟨ret_bool (by unfold isB; simp [H0.out]), B1⟩
  · have H0 := Hd.mk h0
    go_enter Try.func42, Try.ntmps42
    go_wp2
    go_ret
    exact ⟨ret_bool (by unfold isB; rw [decide_eq_false (show ¬ 0 ≤ n from by have := H0.out; omega)]; rfl), balloc (Below.refl _ _) _⟩

theorem f42_is (c : Cfg) (n : Int) (r : Bool) (hr : isB c n = r) (w : World) :
    Calls Try.prog 42 #[cv c, .int .i64 n] w fun e w' => e = .returned (.bool r) ∧ Below w.heap.size w w' := by
  subst hr; exact f42_any c n w

set_option maxHeartbeats 1000000 in
theorem f38_any (c : Cfg) (n : Int) (w : World) :
    Calls Try.prog 38 #[cv c, .int .i64 n] w fun e w' => e = .returned (.bool (isB c n)) ∧ Below w.heap.size w w' := by
  by_cases h0 : 0 ≤ n
  · have H0 := Hd.mk h0
    go_enter Try.func38, Try.ntmps38
    go_wp2_with fail
    refine (f81_any c _).mono ?_
    rintro e w1 ⟨rfl, hb1⟩
    have B1 : Below w.heap.size w w1 := bstep (by repeat (first | exact Below.refl _ _ | assumption | refine balloc ?_ _ | (refine bset ?_ (by simp; done) _) | (refine bset ?_ (by simp; omega) _))) hb1
    have hz1 : w.heap.size < w1.heap.size := by have := hb1.size; simp at this; omega
    obtain ⟨hc1, hf1⟩ := bcell hb1
    go_wp2
    go_ret
    exact ⟨ret_bool (by unfold isB; simp [H0.out]), B1⟩
  · have H0 := Hd.mk h0
    go_enter Try.func38, Try.ntmps38
    go_wp2
    go_ret
    exact ⟨ret_bool (by unfold isB; rw [decide_eq_false (show ¬ 0 ≤ n from by have := H0.out; omega)]; rfl), balloc (Below.refl _ _) _⟩

theorem f38_is (c : Cfg) (n : Int) (r : Bool) (hr : isB c n = r) (w : World) :
    Calls Try.prog 38 #[cv c, .int .i64 n] w fun e w' => e = .returned (.bool r) ∧ Below w.heap.size w w' := by
  subst hr; exact f38_any c n w

set_option maxHeartbeats 1000000 in
theorem f36_any (c : Cfg) (x y : Int) (w : World) :
    Calls Try.prog 36 #[cv c, .int .i64 x, .int .i64 y] w fun e w' => e = .returned (.tuple #[.int .i64 (atP c x y).1, .int .i64 (atP c x y).2]) ∧ Below w.heap.size w w' := by
  by_cases h : chk c = 0
  · have HC := Hd.mk h
    have hk := chk_okc h
    have k1 := hk.W1
    have k2 := hk.W2
    have k3 := hk.H1
    have k4 := hk.H2
    clear hk
    skip
    by_cases x0 : 0 ≤ x
    · skip
      by_cases y0 : 0 ≤ y
      · skip
        by_cases xW : x < c.W
        · skip
          by_cases yH : y < c.H
          · have p0 : 0 ≤ y * c.W := Int.mul_nonneg y0 (by omega)
            have p1 : y * c.W ≤ 4096 := by have := Int.mul_le_mul (show y ≤ 64 by omega) k2 (by omega) (by omega); omega
            have HA : Hd (atP c x y = (y * c.W + x, 0)) := ⟨by unfold atP; rw [if_pos (inP_iff.2 ⟨HC.out, x0, xW, y0, yH⟩)]⟩
            clear h
            go_enter Try.func36, Try.ntmps36
            go_wp2_with fail
            refine (check_is c 0 HC.out _).mono ?_
            rintro e w1 ⟨rfl, hb1⟩
            have B1 : Below w.heap.size w w1 := bstep (by repeat (first | exact Below.refl _ _ | assumption | refine balloc ?_ _ | (refine bset ?_ (by simp; done) _) | (refine bset ?_ (by simp; omega) _))) hb1
            have hz1 : w.heap.size < w1.heap.size := by have := hb1.size; simp at this; omega
            obtain ⟨hc1, hf1⟩ := bcell hb1
            go_wp2
            go_ret2
            exact ⟨ret2_ii HA.out, B1⟩
          · have HA : Hd (atP c x y = (0, 5)) := ⟨by unfold atP; rw [if_neg (by rw [inP_iff]; omega)]⟩
            clear h
            go_enter Try.func36, Try.ntmps36
            go_wp2_with fail
            refine (check_is c 0 HC.out _).mono ?_
            rintro e w1 ⟨rfl, hb1⟩
            have B1 : Below w.heap.size w w1 := bstep (by repeat (first | exact Below.refl _ _ | assumption | refine balloc ?_ _ | (refine bset ?_ (by simp; done) _) | (refine bset ?_ (by simp; omega) _))) hb1
            have hz1 : w.heap.size < w1.heap.size := by have := hb1.size; simp at this; omega
            obtain ⟨hc1, hf1⟩ := bcell hb1
            go_wp2
            go_ret2
            exact ⟨ret2_ii HA.out, B1⟩
        · have HA : Hd (atP c x y = (0, 5)) := ⟨by unfold atP; rw [if_neg (by rw [inP_iff]; omega)]⟩
          clear h
          go_enter Try.func36, Try.ntmps36
          go_wp2_with fail
          refine (check_is c 0 HC.out _).mono ?_
          rintro e w1 ⟨rfl, hb1⟩
          have B1 : Below w.heap.size w w1 := bstep (by repeat (first | exact Below.refl _ _ | assumption | refine balloc ?_ _ | (refine bset ?_ (by simp; done) _) | (refine bset ?_ (by simp; omega) _))) hb1
          have hz1 : w.heap.size < w1.heap.size := by have := hb1.size; simp at this; omega
          obtain ⟨hc1, hf1⟩ := bcell hb1
          go_wp2
          go_ret2
          exact ⟨ret2_ii HA.out, B1⟩
      · have HA : Hd (atP c x y = (0, 5)) := ⟨by unfold atP; rw [if_neg (by rw [inP_iff]; omega)]⟩
        clear h
        go_enter Try.func36, Try.ntmps36
        go_wp2_with fail
        refine (check_is c 0 HC.out _).mono ?_
        rintro e w1 ⟨rfl, hb1⟩
        have B1 : Below w.heap.size w w1 := bstep (by repeat (first | exact Below.refl _ _ | assumption | refine balloc ?_ _ | (refine bset ?_ (by simp; done) _) | (refine bset ?_ (by simp; omega) _))) hb1
        have hz1 : w.heap.size < w1.heap.size := by have := hb1.size; simp at this; omega
        obtain ⟨hc1, hf1⟩ := bcell hb1
        go_wp2
        go_ret2
        exact ⟨ret2_ii HA.out, B1⟩
    · have HA : Hd (atP c x y = (0, 5)) := ⟨by unfold atP; rw [if_neg (by rw [inP_iff]; omega)]⟩
      clear h
      go_enter Try.func36, Try.ntmps36
      go_wp2_with fail
      refine (check_is c 0 HC.out _).mono ?_
      rintro e w1 ⟨rfl, hb1⟩
      have B1 : Below w.heap.size w w1 := bstep (by repeat (first | exact Below.refl _ _ | assumption | refine balloc ?_ _ | (refine bset ?_ (by simp; done) _) | (refine bset ?_ (by simp; omega) _))) hb1
      have hz1 : w.heap.size < w1.heap.size := by have := hb1.size; simp at this; omega
      obtain ⟨hc1, hf1⟩ := bcell hb1
      go_wp2
      go_ret2
      exact ⟨ret2_ii HA.out, B1⟩
  · have HC := Hd.mk h
    have HA : Hd (atP c x y = (0, 5)) := ⟨by unfold atP; rw [if_neg (by rw [inP_iff]; exact fun a => h a.1)]⟩
    have hx : (chk c != 0) = true := by simpa using h
    clear h
    go_enter Try.func36, Try.ntmps36
    go_wp2_with fail
    refine (check_is c (chk c) rfl _).mono ?_
    rintro e w1 ⟨rfl, hb1⟩
    have B1 : Below w.heap.size w w1 := bstep (by repeat (first | exact Below.refl _ _ | assumption | refine balloc ?_ _ | (refine bset ?_ (by simp; done) _) | (refine bset ?_ (by simp; omega) _))) hb1
    have hz1 : w.heap.size < w1.heap.size := by have := hb1.size; simp at this; omega
    obtain ⟨hc1, hf1⟩ := bcell hb1
    go_wp2
    go_ret2
    exact ⟨ret2_ii HA.out, B1⟩

set_option maxHeartbeats 1000000 in
theorem f37_any (c : Cfg) (x y : Int) (w : World) :
    Calls Try.prog 37 #[cv c, .int .i64 x, .int .i64 y] w fun e w' => e = .returned (.tuple #[.int .i64 (atP c x y).1, .int .i64 (atP c x y).2]) ∧ Below w.heap.size w w' := by
  by_cases h : chk c = 0
  · have HC := Hd.mk h
    have hk := chk_okc h
    have k1 := hk.W1
    have k2 := hk.W2
    have k3 := hk.H1
    have k4 := hk.H2
    clear hk
    have HN : Hd (nodes c = c.W * c.H) := ⟨nodes_ok h⟩
    have hn : (nodes c == 0) = false := by have := wh_bd (chk_okc h); rw [HN.out]; simp; omega
    by_cases x0 : 0 ≤ x
    · skip
      by_cases xW : x < c.W
      · skip
        by_cases y0 : 0 ≤ y
        · skip
          by_cases yH : y < c.H
          · have p0 : 0 ≤ y * c.W := Int.mul_nonneg y0 (by omega)
            have p1 : y * c.W ≤ 4096 := by have := Int.mul_le_mul (show y ≤ 64 by omega) k2 (by omega) (by omega); omega
            have HA : Hd (atP c x y = (y * c.W + x, 0)) := ⟨by unfold atP; rw [if_pos (inP_iff.2 ⟨HC.out, x0, xW, y0, yH⟩)]⟩
            clear h
            go_enter Try.func37, Try.ntmps37
            go_wp2_with fail
            refine (f81_any c _).mono ?_
            rintro e w1 ⟨rfl, hb1⟩
            have B1 : Below w.heap.size w w1 := bstep (by repeat (first | exact Below.refl _ _ | assumption | refine balloc ?_ _ | (refine bset ?_ (by simp; done) _) | (refine bset ?_ (by simp; omega) _))) hb1
            have hz1 : w.heap.size < w1.heap.size := by have := hb1.size; simp at this; omega
            obtain ⟨hc1, hf1⟩ := bcell hb1
            go_wp2
            go_ret2
            exact ⟨ret2_ii HA.out, B1⟩
          · have HA : Hd (atP c x y = (0, 5)) := ⟨by unfold atP; rw [if_neg (by rw [inP_iff]; omega)]⟩
            clear h
            go_enter Try.func37, Try.ntmps37
            go_wp2_with fail
            refine (f81_any c _).mono ?_
            rintro e w1 ⟨rfl, hb1⟩
            have B1 : Below w.heap.size w w1 := bstep (by repeat (first | exact Below.refl _ _ | assumption | refine balloc ?_ _ | (refine bset ?_ (by simp; done) _) | (refine bset ?_ (by simp; omega) _))) hb1
            have hz1 : w.heap.size < w1.heap.size := by have := hb1.size; simp at this; omega
            obtain ⟨hc1, hf1⟩ := bcell hb1
            go_wp2
            go_ret2
            exact ⟨ret2_ii HA.out, B1⟩
        · have HA : Hd (atP c x y = (0, 5)) := ⟨by unfold atP; rw [if_neg (by rw [inP_iff]; omega)]⟩
          clear h
          go_enter Try.func37, Try.ntmps37
          go_wp2_with fail
          refine (f81_any c _).mono ?_
          rintro e w1 ⟨rfl, hb1⟩
          have B1 : Below w.heap.size w w1 := bstep (by repeat (first | exact Below.refl _ _ | assumption | refine balloc ?_ _ | (refine bset ?_ (by simp; done) _) | (refine bset ?_ (by simp; omega) _))) hb1
          have hz1 : w.heap.size < w1.heap.size := by have := hb1.size; simp at this; omega
          obtain ⟨hc1, hf1⟩ := bcell hb1
          go_wp2
          go_ret2
          exact ⟨ret2_ii HA.out, B1⟩
      · have HA : Hd (atP c x y = (0, 5)) := ⟨by unfold atP; rw [if_neg (by rw [inP_iff]; omega)]⟩
        clear h
        go_enter Try.func37, Try.ntmps37
        go_wp2_with fail
        refine (f81_any c _).mono ?_
        rintro e w1 ⟨rfl, hb1⟩
        have B1 : Below w.heap.size w w1 := bstep (by repeat (first | exact Below.refl _ _ | assumption | refine balloc ?_ _ | (refine bset ?_ (by simp; done) _) | (refine bset ?_ (by simp; omega) _))) hb1
        have hz1 : w.heap.size < w1.heap.size := by have := hb1.size; simp at this; omega
        obtain ⟨hc1, hf1⟩ := bcell hb1
        go_wp2
        go_ret2
        exact ⟨ret2_ii HA.out, B1⟩
    · have HA : Hd (atP c x y = (0, 5)) := ⟨by unfold atP; rw [if_neg (by rw [inP_iff]; omega)]⟩
      clear h
      go_enter Try.func37, Try.ntmps37
      go_wp2_with fail
      refine (f81_any c _).mono ?_
      rintro e w1 ⟨rfl, hb1⟩
      have B1 : Below w.heap.size w w1 := bstep (by repeat (first | exact Below.refl _ _ | assumption | refine balloc ?_ _ | (refine bset ?_ (by simp; done) _) | (refine bset ?_ (by simp; omega) _))) hb1
      have hz1 : w.heap.size < w1.heap.size := by have := hb1.size; simp at this; omega
      obtain ⟨hc1, hf1⟩ := bcell hb1
      go_wp2
      go_ret2
      exact ⟨ret2_ii HA.out, B1⟩
  · have HC := Hd.mk h
    have HA : Hd (atP c x y = (0, 5)) := ⟨by unfold atP; rw [if_neg (by rw [inP_iff]; exact fun a => h a.1)]⟩
    have hx : (nodes c == 0) = true := by simpa using nodes_no h
    clear h
    go_enter Try.func37, Try.ntmps37
    go_wp2_with fail
    refine (f81_any c _).mono ?_
    rintro e w1 ⟨rfl, hb1⟩
    have B1 : Below w.heap.size w w1 := bstep (by repeat (first | exact Below.refl _ _ | assumption | refine balloc ?_ _ | (refine bset ?_ (by simp; done) _) | (refine bset ?_ (by simp; omega) _))) hb1
    have hz1 : w.heap.size < w1.heap.size := by have := hb1.size; simp at this; omega
    obtain ⟨hc1, hf1⟩ := bcell hb1
    go_wp2
    go_ret2
    exact ⟨ret2_ii HA.out, B1⟩

set_option maxHeartbeats 1000000 in
theorem f35_any (c : Cfg) (n : Int) (w : World) :
    Calls Try.prog 35 #[cv c, .int .i64 n] w fun e w' => e = .returned (.tuple #[.int .i64 (placeP c n).1, .int .i64 (placeP c n).2.1, .int .i64 (placeP c n).2.2]) ∧ Below w.heap.size w w' := by
  rcases h : isB c n with _ | _
  · have HB := Hd.mk h
    have HA : Hd (placeP c n = (0, 0, 5)) := ⟨by unfold placeP; rw [if_neg (by rw [h]; simp)]⟩
    clear h
    go_enter Try.func35, Try.ntmps35
    go_wp2_with fail
    refine (f42_is c n false HB.out _).mono ?_
    rintro e w1 ⟨rfl, hb1⟩
    have B1 : Below w.heap.size w w1 := bstep (by repeat (first | exact Below.refl _ _ | assumption | refine balloc ?_ _ | (refine bset ?_ (by simp; done) _) | (refine bset ?_ (by simp; omega) _))) hb1
    have hz1 : w.heap.size < w1.heap.size := by have := hb1.size; simp at this; omega
    obtain ⟨hc1, hf1⟩ := bcell hb1
    go_wp2
    go_ret3
    exact ⟨ret3_iii HA.out, B1⟩
  · have HB := Hd.mk h
    have HA : Hd (placeP c n = (n % c.W, n / c.W, 0)) := ⟨by unfold placeP; rw [if_pos h]⟩
    have hk := chk_okc (isB_chk h)
    have k1 := hk.W1
    have k2 := hk.W2
    have n0 := (isB_iff.1 h).1
    have n1 : n ≤ 4096 := by have := (isB_iff.1 h).2; have := nodes_bd c; omega
    clear hk h
    go_enter Try.func35, Try.ntmps35
    go_wp2_with fail
    refine (f42_is c n true HB.out _).mono ?_
    rintro e w1 ⟨rfl, hb1⟩
    have B1 : Below w.heap.size w w1 := bstep (by repeat (first | exact Below.refl _ _ | assumption | refine balloc ?_ _ | (refine bset ?_ (by simp; done) _) | (refine bset ?_ (by simp; omega) _))) hb1
    have hz1 : w.heap.size < w1.heap.size := by have := hb1.size; simp at this; omega
    obtain ⟨hc1, hf1⟩ := bcell hb1
    go_wp2
    go_quiet (fail)
    go_wp2
    go_ret3
    exact ⟨ret3_iii HA.out, by first | exact bdrewN B1 _ | exact bdrew B1⟩

set_option maxHeartbeats 1000000 in
theorem f39_any (c : Cfg) (n : Int) (n0 : 0 ≤ n) (n1 : n ≤ 4096) (k1 : 1 ≤ c.W) (k2 : c.W ≤ 64) (w : World) :
    Calls Try.prog 39 #[cv c, .int .i64 n] w fun e w' => e = .returned (.int .i64 (n % c.W)) ∧ Below w.heap.size w w' := by
  go_enter Try.func39, Try.ntmps39
  go_wp2
  go_ret
  exact ⟨rfl, balloc (Below.refl _ _) _⟩

set_option maxHeartbeats 1000000 in
theorem f40_any (c : Cfg) (n : Int) (n0 : 0 ≤ n) (n1 : n ≤ 4096) (k1 : 1 ≤ c.W) (k2 : c.W ≤ 64) (w : World) :
    Calls Try.prog 40 #[cv c, .int .i64 n] w fun e w' => e = .returned (.int .i64 (n / c.W)) ∧ Below w.heap.size w w' := by
  go_enter Try.func40, Try.ntmps40
  go_wp2
  go_ret
  exact ⟨rfl, balloc (Below.refl _ _) _⟩

set_option maxHeartbeats 1000000 in
theorem f43_any (p : Int) (w : World) :
    Calls Try.prog 43 #[.int .i64 p] w fun e w' => e = .returned (.int .i64 (backP p)) ∧ Below w.heap.size w w' := by
  by_cases h : 0 ≤ p ∧ p ≤ 4
  · obtain ⟨h0, h1⟩ := h
    have hp : p = 0 ∨ p = 1 ∨ p = 2 ∨ p = 3 ∨ p = 4 := by omega
    rcases hp with rfl | rfl | rfl | rfl | rfl
    all_goals
      go_enter Try.func43, Try.ntmps43
      go_wp2
      go_ret
      exact ⟨rfl, by first | exact Below.refl _ _ | exact balloc (Below.refl _ _) _⟩
  · have HB : Hd (backP p = -1) := ⟨by unfold backP; rw [if_neg (by omega), if_neg (by omega), if_neg (by omega), if_neg (by omega), if_neg (by omega)]⟩
    have hp : p < 0 ∨ (0 ≤ p ∧ 4 < p) := by omega
    clear h
    rcases hp with hp | ⟨hq, hp⟩
    all_goals
      have e0 : (p == 0) = false := by rw [beq_eq_false_iff_ne]; omega
      have e1 : (p == 1) = false := by rw [beq_eq_false_iff_ne]; omega
      have e2 : (p == 2) = false := by rw [beq_eq_false_iff_ne]; omega
      have e3 : (p == 3) = false := by rw [beq_eq_false_iff_ne]; omega
      have e4 : (p == 4) = false := by rw [beq_eq_false_iff_ne]; omega
      go_enter Try.func43, Try.ntmps43
      go_wp2
      go_ret
      exact ⟨ret_int HB.out.symm, Below.refl _ _⟩

set_option maxHeartbeats 1000000 in
theorem f44_any (p : Int) (w : World) :
    Calls Try.prog 44 #[.int .i64 p] w fun e w' => e = .returned (.int .i64 (backP p)) ∧ Below w.heap.size w w' := by
  by_cases h : 0 ≤ p ∧ p ≤ 4
  · obtain ⟨h0, h1⟩ := h
    have hp : p = 0 ∨ p = 1 ∨ p = 2 ∨ p = 3 ∨ p = 4 := by omega
    rcases hp with rfl | rfl | rfl | rfl | rfl
    all_goals
      go_enter Try.func44, Try.ntmps44
      go_wp2
      go_ret
      exact ⟨rfl, by first | exact Below.refl _ _ | exact balloc (Below.refl _ _) _⟩
  · have HB : Hd (backP p = -1) := ⟨by unfold backP; rw [if_neg (by omega), if_neg (by omega), if_neg (by omega), if_neg (by omega), if_neg (by omega)]⟩
    have hp : p < 0 ∨ (0 ≤ p ∧ 4 < p) := by omega
    clear h
    rcases hp with hp | ⟨hq, hp⟩
    all_goals
      have e0 : (p == 0) = false := by rw [beq_eq_false_iff_ne]; omega
      have e1 : (p == 1) = false := by rw [beq_eq_false_iff_ne]; omega
      have e2 : (p == 2) = false := by rw [beq_eq_false_iff_ne]; omega
      have e3 : (p == 3) = false := by rw [beq_eq_false_iff_ne]; omega
      have e4 : (p == 4) = false := by rw [beq_eq_false_iff_ne]; omega
      go_enter Try.func44, Try.ntmps44
      go_wp2
      go_ret
      exact ⟨ret_int HB.out.symm, Below.refl _ _⟩

end Go.Proofs.Ytnbogjiddildaaa
