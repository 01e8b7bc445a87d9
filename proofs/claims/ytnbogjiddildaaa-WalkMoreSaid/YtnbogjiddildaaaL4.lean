/- The walk of the law GridFar. -/
import Derived.Test.YtnbogjiddildaaaJ
import Derived.Test.YtnbogjiddildaaaL0
namespace Go.Proofs.Ytnbogjiddildaaa
open Go.RowKit
set_option linter.unusedSimpArgs false
set_option linter.unusedVariables false

theorem f33_is (c : Cfg) (a b d : Int) (h : farP c a b = d) (w : World) : Calls Try.prog 33 #[cv c, .int .i64 a, .int .i64 b] w fun e w' => e = .returned (.int .i64 d) ∧ Below w.heap.size w w' := by
  subst h; exact f33_any c a b w

set_option maxHeartbeats 1000000 in
set_option maxRecDepth 20000 in
theorem law4_go (c : Cfg) (a b k p : Int) (w : World) :
    Calls Try.prog 4 #[cv c, .agg #[.int .i64 a, .int .i64 b, .int .i64 k], .int .i64 p] w fun e w' => e = .returned (.bool true) ∧ Below w.heap.size w w' := by
  go_enter Try.func4, Try.ntmps4
  go_wp2_with fail
  refine (f25_any _).mono ?_
  rintro e w1 ⟨rfl, hb1⟩
  have S1 := keepS hb1 (allocS _ (s0 c w))
  have E1 := keepE3 hb1 (e0_3 a b k (h := w.heap.size + 1) _ (by simp))
  have F1 := keepF hb1 (by simp; omega) (allocF _ (by simp) (fz0 c w))
  clear hb1
  go_wp2_with fail
  refine (f31_sm c _).mono ?_
  rintro e w2 ⟨s, hsm, rfl, hb2⟩
  have S2 := keepS hb2 S1
  have E2 := keepE3 hb2 E1
  have F2 := keepF hb2 S1.2.2.2.2.2.2.2.2.2.1 F1
  clear hb2 S1 E1 F1
  go_wp2_with fail
  have S3 := storesS (s := s) (Nat.le_refl _) S2
  have E3 := storesE3 (s := s) (g := w.heap.size) (by omega) E2
  clear S2 E2 F2
  generalize (((((((((w2.setCell ⟨w.heap.size, 0, none⟩ (.int .i64 s.W)).setCell ⟨w.heap.size, 1, none⟩ (.int .i64 s.H)).setCell ⟨w.heap.size, 2, none⟩ (.int .i64 s.L)).setCell ⟨w.heap.size, 3, none⟩ (.int .i64 s.D)).setCell ⟨w.heap.size, 4, none⟩ (.int .i64 s.R)).setCell ⟨w.heap.size, 5, none⟩ (.int .i64 s.I)).setCell ⟨w.heap.size, 6, none⟩ (.int .i64 s.B)).setCell ⟨w.heap.size, 7, none⟩ (.bool s.ws)).setCell ⟨w.heap.size, 8, none⟩ (.bool s.cs)) = w3 at S3 E3 ⊢
  obtain ⟨x, HX⟩ : ∃ x, Hd (nodeP s a = x) := ⟨_, ⟨rfl⟩⟩
  obtain ⟨y, HY⟩ : ∃ x, Hd (nodeP s b = x) := ⟨_, ⟨rfl⟩⟩
  obtain ⟨z, HZ⟩ : ∃ x, Hd (nodeP s k = x) := ⟨_, ⟨rfl⟩⟩
  have HXB := Hd.mk (nodeP_is hsm.ok a)
  have HYB := Hd.mk (nodeP_is hsm.ok b)
  have HZB := Hd.mk (nodeP_is hsm.ok k)
  rw [HX.out] at HXB
  rw [HY.out] at HYB
  rw [HZ.out] at HZB
  have HSE := Hd.mk (And.intro S3 E3)
  clear S3 E3
  go_region_held3 (fun W => (W.cell? ⟨w.heap.size, 0, none⟩ = some (.int .i64 s.W) ∧ W.cell? ⟨w.heap.size, 1, none⟩ = some (.int .i64 s.H) ∧ W.cell? ⟨w.heap.size, 2, none⟩ = some (.int .i64 s.L) ∧ W.cell? ⟨w.heap.size, 3, none⟩ = some (.int .i64 s.D) ∧ W.cell? ⟨w.heap.size, 4, none⟩ = some (.int .i64 s.R) ∧ W.cell? ⟨w.heap.size, 5, none⟩ = some (.int .i64 s.I) ∧ W.cell? ⟨w.heap.size, 6, none⟩ = some (.int .i64 s.B) ∧ W.cell? ⟨w.heap.size, 7, none⟩ = some (.bool s.ws) ∧ W.cell? ⟨w.heap.size, 8, none⟩ = some (.bool s.cs) ∧ w.heap.size < W.heap.size ∧ Below w.heap.size w W) ∧ (W.cell? ⟨w.heap.size + 1, 0, none⟩ = some (.int .i64 a) ∧ W.cell? ⟨w.heap.size + 1, 1, none⟩ = some (.int .i64 b) ∧ W.cell? ⟨w.heap.size + 1, 2, none⟩ = some (.int .i64 k) ∧ w.heap.size + 1 < W.heap.size)) (first | exact ⟨dS HSE.out.1, HSE.out.2⟩ | exact keepSE3 (by assumption) (by assumption))
    (first | (go_at_call 32; (with_reducible refine (f32_is s a x hsm.ok HX.out _).mono ?_); rintro e wa ⟨rfl, hba⟩) | (go_at_call 32; (with_reducible refine (f32_is s b y hsm.ok HY.out _).mono ?_); rintro e wa ⟨rfl, hba⟩))
  rename_i T4
  clear HSE
  go_wp2_with fail
  refine (f32_is s k z hsm.ok HZ.out _).mono ?_
  rintro e w5 ⟨rfl, hb5⟩
  have T5 := keepSE3 hb5 T4
  clear hb5 T4
  obtain ⟨d, HD⟩ : ∃ d, Hd (farP s x y = d) := ⟨_, ⟨rfl⟩⟩
  obtain ⟨d1, HD1⟩ : ∃ d, Hd (farP s x z = d) := ⟨_, ⟨rfl⟩⟩
  obtain ⟨d2, HD2⟩ : ∃ d, Hd (farP s z y = d) := ⟨_, ⟨rfl⟩⟩
  have HDs : Hd (farP s y x = d) := ⟨by rw [far_sym HXB.out HYB.out, HD.out]⟩
  have hd0 := far_bd HXB.out HYB.out
  have hd1 := far_bd HXB.out HZB.out
  have hd2 := far_bd HZB.out HYB.out
  have htr := far_tri HXB.out HYB.out HZB.out
  have HZR := Hd.mk (far_zero HXB.out HYB.out)
  rw [HD.out] at hd0 htr HZR
  rw [HD1.out] at hd1 htr
  rw [HD2.out] at hd2 htr
  go_wp2_with fail
  refine (f33_is s x y d HD.out _).mono ?_
  rintro e w6 ⟨rfl, hb6⟩
  have T6 := keepSE3 hb6 T5
  clear hb6 T5
  have t1 : decide (d < 0) = false := decide_eq_false (by omega)
  have t2 : decide (d1 + d2 < d) = false := decide_eq_false (by omega)
  have t3 : IntKind.i64.wrap (d1 + d2) = d1 + d2 := IntWalk.i64_in _ (by omega)
  have hzz : (d == 0) = (x == y) := by
    rw [Bool.eq_iff_iff]; simp only [beq_iff_eq]; exact HZR.out
  rcases hxy : (x == y) with _ | _
  all_goals
    rw [hxy] at hzz
    go_wp2_with fail
    have HSE := Hd.mk T6
    clear T6
    go_region_held3 (fun W => (W.cell? ⟨w.heap.size, 0, none⟩ = some (.int .i64 s.W) ∧ W.cell? ⟨w.heap.size, 1, none⟩ = some (.int .i64 s.H) ∧ W.cell? ⟨w.heap.size, 2, none⟩ = some (.int .i64 s.L) ∧ W.cell? ⟨w.heap.size, 3, none⟩ = some (.int .i64 s.D) ∧ W.cell? ⟨w.heap.size, 4, none⟩ = some (.int .i64 s.R) ∧ W.cell? ⟨w.heap.size, 5, none⟩ = some (.int .i64 s.I) ∧ W.cell? ⟨w.heap.size, 6, none⟩ = some (.int .i64 s.B) ∧ W.cell? ⟨w.heap.size, 7, none⟩ = some (.bool s.ws) ∧ W.cell? ⟨w.heap.size, 8, none⟩ = some (.bool s.cs) ∧ w.heap.size < W.heap.size ∧ Below w.heap.size w W) ∧ (W.cell? ⟨w.heap.size + 1, 0, none⟩ = some (.int .i64 a) ∧ W.cell? ⟨w.heap.size + 1, 1, none⟩ = some (.int .i64 b) ∧ W.cell? ⟨w.heap.size + 1, 2, none⟩ = some (.int .i64 k) ∧ w.heap.size + 1 < W.heap.size)) (first | exact ⟨dS HSE.out.1, HSE.out.2⟩ | exact keepSE3 (by assumption) (by assumption))
      (first | (go_at_call 33; (with_reducible refine (f33_is s y x d HDs.out _).mono ?_); rintro e wa ⟨rfl, hba⟩) | (go_at_call 33; (with_reducible refine (f33_is s x z d1 HD1.out _).mono ?_); rintro e wa ⟨rfl, hba⟩) | (go_at_call 33; (with_reducible refine (f33_is s z y d2 HD2.out _).mono ?_); rintro e wa ⟨rfl, hba⟩))
    rename_i T7
    clear HSE
    obtain ⟨m, is, HM⟩ : ∃ m is, Hd (besideP s x (portP p) = (m, is)) := ⟨_, _, ⟨rfl⟩⟩
    obtain ⟨f, HF⟩ : ∃ d, Hd (farP s m y = d) := ⟨_, ⟨rfl⟩⟩
    go_wp2_with fail
    rw [portP_w]
    refine (f34_is s x _ m is HM.out _).mono ?_
    rintro e w8 ⟨rfl, hb8⟩
    have T8 := keepSE3 hb8 T7
    clear hb8 T7
    go_wp2_with fail
    refine (f33_is s m y f HF.out _).mono ?_
    rintro e w9 ⟨rfl, hb9⟩
    have HB := Hd.mk (sB (keepSE3 hb9 T8).1)
    clear hb9 T8
    cases is
    · go_wp2
      go_ret
      exact ⟨rfl, HB.out⟩
    · have hst := far_step (step_of HM.out) HYB.out (portP_bd p).1
      rw [HF.out, HD.out] at hst
      rcases hst with rfl | rfl
      all_goals
        go_wp2
        go_ret
        exact ⟨by first | rfl | simp, HB.out⟩

theorem law4_calls (c : Cfg) (a b k : Int) (_ : -9223372036854775808 ≤ a ∧ a ≤ 9223372036854775807) (_ : -9223372036854775808 ≤ b ∧ b ≤ 9223372036854775807) (_ : -9223372036854775808 ≤ k ∧ k ≤ 9223372036854775807) (p : Int) (_ : -9223372036854775808 ≤ p ∧ p ≤ 9223372036854775807) (w : World) :
    Calls Try.prog 4 #[cv c, .agg #[.int .i64 a, .int .i64 b, .int .i64 k], .int .i64 p] w fun e w' => e = .returned (.bool true) ∧ Below w.heap.size w w' := law4_go c a b k p w

end Go.Proofs.Ytnbogjiddildaaa
