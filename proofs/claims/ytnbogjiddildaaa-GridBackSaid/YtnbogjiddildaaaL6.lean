/- The walk of the law GridBack. -/
import Derived.Test.YtnbogjiddildaaaLI
namespace Go.Proofs.Ytnbogjiddildaaa
open Go.RowKit
set_option linter.unusedSimpArgs false
set_option linter.unusedVariables false

set_option maxHeartbeats 1000000 in
set_option maxRecDepth 20000 in
theorem law6_go (c : Cfg) (n p : Int) (w : World) :
    Calls Try.prog 6 #[cv c, .int .i64 n, .int .i64 p] w fun e w' => e = .returned (.bool true) ∧ Below w.heap.size w w' := by
  go_enter Try.func6, Try.ntmps6
  go_wp2_with fail
  refine (f25_any _).mono ?_
  rintro e w1 ⟨rfl, hb1⟩
  have S1 := keepS hb1 (s0 c w)
  have F1 := keepF hb1 (by simp) (fz0 c w)
  clear hb1
  go_wp2_with fail
  refine (f31_sm c _).mono ?_
  rintro e w2 ⟨s, hsm, rfl, hb2⟩
  have S2 := keepS hb2 S1
  have F2 := keepF hb2 S1.2.2.2.2.2.2.2.2.2.1 F1
  clear hb2 S1 F1
  go_wp2_with fail
  have S3 := storesS (s := s) (Nat.le_refl _) S2
  clear S2 F2
  generalize (((((((((w2.setCell ⟨w.heap.size, 0, none⟩ (.int .i64 s.W)).setCell ⟨w.heap.size, 1, none⟩ (.int .i64 s.H)).setCell ⟨w.heap.size, 2, none⟩ (.int .i64 s.L)).setCell ⟨w.heap.size, 3, none⟩ (.int .i64 s.D)).setCell ⟨w.heap.size, 4, none⟩ (.int .i64 s.R)).setCell ⟨w.heap.size, 5, none⟩ (.int .i64 s.I)).setCell ⟨w.heap.size, 6, none⟩ (.int .i64 s.B)).setCell ⟨w.heap.size, 7, none⟩ (.bool s.ws)).setCell ⟨w.heap.size, 8, none⟩ (.bool s.cs)) = w3 at S3 ⊢
  obtain ⟨x, HX⟩ : ∃ z, Hd (nodeP s n = z) := ⟨_, ⟨rfl⟩⟩
  have HBx : Hd (isB s x = true) := ⟨by have h := nodeP_is hsm.ok n; rw [HX.out] at h; exact h⟩
  obtain ⟨m, is, HM⟩ : ∃ m is, Hd (besideP s x p = (m, is)) := ⟨_, _, ⟨rfl⟩⟩
  obtain ⟨q, HQ⟩ : ∃ z, Hd (backP p = z) := ⟨_, ⟨rfl⟩⟩
  obtain ⟨q2, HQ2⟩ : ∃ z, Hd (backP q = z) := ⟨_, ⟨rfl⟩⟩
  obtain ⟨t, HT⟩ : ∃ z, Hd (turnP p = z) := ⟨_, ⟨rfl⟩⟩
  obtain ⟨b, home, HO⟩ : ∃ b home, Hd (besideP s m q = (b, home)) := ⟨_, _, ⟨rfl⟩⟩
  have hq1 : -1 ≤ q ∧ q ≤ 4 := by rw [← HQ.out]; unfold backP; repeat' split <;> omega
  have ht1 : -8 ≤ t ∧ t ≤ 8 := by
    rw [← HT.out]; unfold turnP; split
    · omega
    · unfold backP; repeat' split <;> omega
  have hbb : (q2 == q + t) = true := by
    rw [beq_iff_eq, ← HQ2.out, ← HQ.out, ← HT.out]; exact back_back p
  have hw1 := hsm.W1
  have hw2 := hsm.W2
  have hh1 := hsm.H1
  have hh2 := hsm.H2
  have u0 : 0 ≤ (s.W - 1) * s.H := Int.mul_nonneg (by omega) (by omega)
  have u1 : (s.W - 1) * s.H ≤ 16 := by have := Int.mul_le_mul (show s.W - 1 ≤ 4 by omega) hh2 (by omega) (by omega); omega
  have v0 : 0 ≤ s.W * (s.H - 1) := Int.mul_nonneg (by omega) (by omega)
  have v1 : s.W * (s.H - 1) ≤ 16 := by have := Int.mul_le_mul hw2 (show s.H - 1 ≤ 4 by omega) (by omega) (by omega); omega
  have hll : (((linksP s).length : Int) == 2 * ((s.W - 1) * s.H + s.W * (s.H - 1))) = true := by rw [beq_iff_eq]; exact links_len hsm
  go_wp2_with fail
  refine (f32_is s n x hsm.ok HX.out _).mono ?_
  rintro e w4 ⟨rfl, hb4⟩
  have S4 := keepS hb4 S3
  clear hb4 S3
  go_wp2_with fail
  refine (f34_is s x p m is HM.out _).mono ?_
  rintro e w5 ⟨rfl, hb5⟩
  have S5 := keepS hb5 S4
  clear hb5 S4
  go_wp2_with fail
  have HS6 := Hd.mk S5
  clear S5
  go_region_held3 (fun W => W.cell? ⟨w.heap.size, 0, none⟩ = some (.int .i64 s.W) ∧ W.cell? ⟨w.heap.size, 1, none⟩ = some (.int .i64 s.H) ∧ W.cell? ⟨w.heap.size, 2, none⟩ = some (.int .i64 s.L) ∧ W.cell? ⟨w.heap.size, 3, none⟩ = some (.int .i64 s.D) ∧ W.cell? ⟨w.heap.size, 4, none⟩ = some (.int .i64 s.R) ∧ W.cell? ⟨w.heap.size, 5, none⟩ = some (.int .i64 s.I) ∧ W.cell? ⟨w.heap.size, 6, none⟩ = some (.int .i64 s.B) ∧ W.cell? ⟨w.heap.size, 7, none⟩ = some (.bool s.ws) ∧ W.cell? ⟨w.heap.size, 8, none⟩ = some (.bool s.cs) ∧ w.heap.size < W.heap.size ∧ Below w.heap.size w W) (first | exact dS HS6.out | exact keepS (by assumption) (by assumption))
    (first | (go_at_call 43; (with_reducible refine (h43_is p q HQ.out _).mono ?_); rintro e wq ⟨rfl, hbq⟩) | (go_at_call 34; (with_reducible refine (f34_is s m q b home HO.out _).mono ?_); rintro e wq ⟨rfl, hbq⟩))
  rename_i S6
  clear HS6
  go_wp2_with fail
  refine (links_row s _).mono ?_
  rintro e w7 ⟨A, cap, rfl, hb7⟩
  have S7 := keepS hb7 S6
  clear hb7 S6
  cases is
  · have S8 := S7
    clear S7
    go_wp2_with fail
    refine (h43_is p q HQ.out _).mono ?_
    rintro e w9 ⟨rfl, hb9⟩
    have S9 := keepS hb9 S8
    clear hb9 S8
    go_wp2_with fail
    refine (h43_is q q2 HQ2.out _).mono ?_
    rintro e w10 ⟨rfl, hb10⟩
    have S10 := keepS hb10 S9
    clear hb10 S9
    go_wp2_with fail
    refine (h43_is p q HQ.out _).mono ?_
    rintro e w11 ⟨rfl, hb11⟩
    have S11 := keepS hb11 S10
    clear hb11 S10
    go_wp2_with fail
    refine (h46_is p t HT.out _).mono ?_
    rintro e w12 ⟨rfl, hb12⟩
    have S12 := keepS hb12 S11
    clear hb12 S11
    go_wp2
    go_ret
    exact ⟨rfl, sB S12⟩
  · have hst := step_of HM.out
    have HMB := Hd.mk hst.vm
    have hbk := hst.back
    rw [HQ.out, HO.out] at hbk
    injection hbk with hbk1 hbk2
    subst hbk1 hbk2
    clear hst
    go_wp2_with fail
    refine (f42_is s m true HMB.out _).mono ?_
    rintro e w8 ⟨rfl, hb8⟩
    have S8 := keepS hb8 S7
    clear hb8 S7
    go_wp2_with fail
    refine (h43_is p q HQ.out _).mono ?_
    rintro e w9 ⟨rfl, hb9⟩
    have S9 := keepS hb9 S8
    clear hb9 S8
    go_wp2_with fail
    refine (h43_is q q2 HQ2.out _).mono ?_
    rintro e w10 ⟨rfl, hb10⟩
    have S10 := keepS hb10 S9
    clear hb10 S9
    go_wp2_with fail
    refine (h43_is p q HQ.out _).mono ?_
    rintro e w11 ⟨rfl, hb11⟩
    have S11 := keepS hb11 S10
    clear hb11 S10
    go_wp2_with fail
    refine (h46_is p t HT.out _).mono ?_
    rintro e w12 ⟨rfl, hb12⟩
    have S12 := keepS hb12 S11
    clear hb12 S11
    go_wp2
    go_ret
    exact ⟨rfl, sB S12⟩

theorem law6_calls (c : Cfg) (n : Int) (_ : -9223372036854775808 ≤ n ∧ n ≤ 9223372036854775807) (p : Int) (_ : -9223372036854775808 ≤ p ∧ p ≤ 9223372036854775807) (w : World) :
    Calls Try.prog 6 #[cv c, .int .i64 n, .int .i64 p] w fun e w' => e = .returned (.bool true) ∧ Below w.heap.size w w' := law6_go c n p w

end Go.Proofs.Ytnbogjiddildaaa
