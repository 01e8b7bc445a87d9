/- The walk of the law GridSteps. -/
import Derived.Test.YtnbogjiddildaaaLI
namespace Go.Proofs.Ytnbogjiddildaaa
open Go.RowKit
set_option linter.unusedSimpArgs false
set_option linter.unusedVariables false

set_option maxHeartbeats 1000000 in
set_option maxRecDepth 20000 in
theorem law7_go (c : Cfg) (n a b : Int) (w : World) :
    Calls Try.prog 7 #[cv c, .int .i64 n, .agg #[.int .i64 a, .int .i64 b]] w fun e w' => e = .returned (.bool true) ∧ Below w.heap.size w w' := by
  go_enter Try.func7, Try.ntmps7
  go_wp2_with fail
  refine (f25_any _).mono ?_
  rintro e w1 ⟨rfl, hb1⟩
  have S1 := keepS hb1 (allocS _ (s0 c w))
  have E1 := keepE2 hb1 (e0_2 a b (h := w.heap.size + 1) _ (by simp))
  have F1 := keepF hb1 (by simp; omega) (allocF _ (by simp) (fz0 c w))
  clear hb1
  go_wp2_with fail
  refine (f31_sm c _).mono ?_
  rintro e w2 ⟨s, hsm, rfl, hb2⟩
  have S2 := keepS hb2 S1
  have E2 := keepE2 hb2 E1
  have F2 := keepF hb2 S1.2.2.2.2.2.2.2.2.2.1 F1
  clear hb2 S1 E1 F1
  go_wp2_with fail
  have S3 := storesS (s := s) (Nat.le_refl _) S2
  have E3 := storesE2 (s := s) (g := w.heap.size) (by omega) E2
  clear S2 E2 F2
  generalize (((((((((w2.setCell ⟨w.heap.size, 0, none⟩ (.int .i64 s.W)).setCell ⟨w.heap.size, 1, none⟩ (.int .i64 s.H)).setCell ⟨w.heap.size, 2, none⟩ (.int .i64 s.L)).setCell ⟨w.heap.size, 3, none⟩ (.int .i64 s.D)).setCell ⟨w.heap.size, 4, none⟩ (.int .i64 s.R)).setCell ⟨w.heap.size, 5, none⟩ (.int .i64 s.I)).setCell ⟨w.heap.size, 6, none⟩ (.int .i64 s.B)).setCell ⟨w.heap.size, 7, none⟩ (.bool s.ws)).setCell ⟨w.heap.size, 8, none⟩ (.bool s.cs)) = w3 at S3 E3 ⊢
  have T3 := And.intro S3 E3
  clear S3 E3
  obtain ⟨x, HX⟩ : ∃ z, Hd (nodeP s n = z) := ⟨_, ⟨rfl⟩⟩
  have HBx : Hd (isB s x = true) := ⟨by have h := nodeP_is hsm.ok n; rw [HX.out] at h; exact h⟩
  obtain ⟨p, HP⟩ : ∃ z, Hd (portP a = z) := ⟨_, ⟨rfl⟩⟩
  obtain ⟨q, HQ⟩ : ∃ z, Hd (portP b = z) := ⟨_, ⟨rfl⟩⟩
  have hp := portP_bd a
  have hq := portP_bd b
  rw [HP.out] at hp
  rw [HQ.out] at hq
  obtain ⟨y, one, HY⟩ : ∃ b one, Hd (besideP s x p = (b, one)) := ⟨_, _, ⟨rfl⟩⟩
  obtain ⟨z, two, HZ⟩ : ∃ b one, Hd (besideP s x q = (b, one)) := ⟨_, _, ⟨rfl⟩⟩
  obtain ⟨u, three, HU⟩ : ∃ b one, Hd (besideP s y q = (b, one)) := ⟨_, _, ⟨rfl⟩⟩
  obtain ⟨v, four, HV⟩ : ∃ b one, Hd (besideP s z p = (b, one)) := ⟨_, _, ⟨rfl⟩⟩
  obtain ⟨r, HR⟩ : ∃ z, Hd (backP p = z) := ⟨_, ⟨rfl⟩⟩
  go_wp2_with fail
  refine (f32_is s n x hsm.ok HX.out _).mono ?_
  rintro e w4 ⟨rfl, hb4⟩
  have T4 := keepSE2 hb4 T3
  clear hb4 T3
  go_wp2_with fail
  have HT4 := Hd.mk T4
  have HS0 := T4.1
  have HE0 := T4.2
  clear T4
  go_quiet (fail)
  rw [portP_w, portP_w, HP.out, HQ.out]
  have T5 := And.intro (drewNS nq HS0) HE0
  clear HS0 HE0 HT4
  go_wp2_with fail
  refine (f34_is s x p y one HY.out _).mono ?_
  rintro e w6 ⟨rfl, hb6⟩
  have T6 := keepSE2 hb6 T5
  clear hb6 T5
  go_wp2_with fail
  refine (f34_is s x q z two HZ.out _).mono ?_
  rintro e w7 ⟨rfl, hb7⟩
  have T7 := keepSE2 hb7 T6
  clear hb7 T6
  cases one
  · cases two
    all_goals
      go_wp2_with fail
      refine (f42_is s x true HBx.out _).mono ?_
      rintro e w8 ⟨rfl, hb8⟩
      have T8 := keepSE2 hb8 T7
      clear hb8 T7
      go_wp2
      go_ret
      exact ⟨rfl, sB T8.1⟩
  · cases two
    · skip
      go_wp2_with fail
      refine (f42_is s x true HBx.out _).mono ?_
      rintro e w8 ⟨rfl, hb8⟩
      have T8 := keepSE2 hb8 T7
      clear hb8 T7
      go_wp2
      go_ret
      exact ⟨rfl, sB T8.1⟩
    · have h1 := step_of HY.out
      have h2 := step_of HZ.out
      have HBk := Hd.mk h1.back
      rw [HR.out] at HBk
      have HAp := Hd.mk (steps_apart h1 h2 hp.1 hq.1)
      clear h1 h2
      go_wp2_with fail
      refine (f34_is s y q u three HU.out _).mono ?_
      rintro e w8 ⟨rfl, hb8⟩
      have T8 := keepSE2 hb8 T7
      clear hb8 T7
      go_wp2_with fail
      refine (f34_is s z p v four HV.out _).mono ?_
      rintro e w9 ⟨rfl, hb9⟩
      have T9 := keepSE2 hb9 T8
      clear hb9 T8
      go_wp2_with fail
      have HS10 := Hd.mk T9
      clear T9
      go_region_held3 (fun W => (W.cell? ⟨w.heap.size, 0, none⟩ = some (.int .i64 s.W) ∧ W.cell? ⟨w.heap.size, 1, none⟩ = some (.int .i64 s.H) ∧ W.cell? ⟨w.heap.size, 2, none⟩ = some (.int .i64 s.L) ∧ W.cell? ⟨w.heap.size, 3, none⟩ = some (.int .i64 s.D) ∧ W.cell? ⟨w.heap.size, 4, none⟩ = some (.int .i64 s.R) ∧ W.cell? ⟨w.heap.size, 5, none⟩ = some (.int .i64 s.I) ∧ W.cell? ⟨w.heap.size, 6, none⟩ = some (.int .i64 s.B) ∧ W.cell? ⟨w.heap.size, 7, none⟩ = some (.bool s.ws) ∧ W.cell? ⟨w.heap.size, 8, none⟩ = some (.bool s.cs) ∧ w.heap.size < W.heap.size ∧ Below w.heap.size w W) ∧ (W.cell? ⟨w.heap.size + 1, 0, none⟩ = some (.int .i64 a) ∧ W.cell? ⟨w.heap.size + 1, 1, none⟩ = some (.int .i64 b) ∧ w.heap.size + 1 < W.heap.size)) (first | exact ⟨dS HS10.out.1, HS10.out.2⟩ | exact keepSE2 (by assumption) (by assumption))
        (first | (go_at_call 43; (with_reducible refine (h43_is p r HR.out _).mono ?_); rintro e wq ⟨rfl, hbq⟩) | (go_at_call 34; (with_reducible refine (f34_is s y r x true HBk.out _).mono ?_); rintro e wq ⟨rfl, hbq⟩))
      rename_i T10
      clear HS10
      rcases (by omega : (p < 3 ∧ q < 3) ∨ (¬ p < 3 ∧ ¬ q < 3) ∨ (p < 3 ∧ ¬ q < 3) ∨ (¬ p < 3 ∧ q < 3)) with ⟨hp3, hq3⟩ | ⟨hp3, hq3⟩ | ⟨hp3, hq3⟩ | ⟨hp3, hq3⟩
      · go_wp2
        go_ret
        exact ⟨rfl, sB T10.1⟩
      · go_wp2
        go_ret
        exact ⟨rfl, sB T10.1⟩
      · obtain ⟨k, hk1, hk2, hk3⟩ := HAp.out (by simp [hp3, hq3])
        rw [HU.out] at hk1
        rw [HV.out] at hk2
        injection hk1 with e1 e2
        injection hk2 with e3 e4
        subst e1 e2 e3 e4
        have HK := Hd.mk hk3
        clear hk3
        go_wp2_with fail
        refine (h33_is s x _ 2 HK.out _).mono ?_
        rintro e w11 ⟨rfl, hb11⟩
        have T11 := keepSE2 hb11 T10
        clear hb11 T10
        go_wp2
        go_ret
        exact ⟨rfl, sB T11.1⟩
      · obtain ⟨k, hk1, hk2, hk3⟩ := HAp.out (by simp [hp3, hq3])
        rw [HU.out] at hk1
        rw [HV.out] at hk2
        injection hk1 with e1 e2
        injection hk2 with e3 e4
        subst e1 e2 e3 e4
        have HK := Hd.mk hk3
        clear hk3
        go_wp2_with fail
        refine (h33_is s x _ 2 HK.out _).mono ?_
        rintro e w11 ⟨rfl, hb11⟩
        have T11 := keepSE2 hb11 T10
        clear hb11 T10
        go_wp2
        go_ret
        exact ⟨rfl, sB T11.1⟩

theorem law7_calls (c : Cfg) (n : Int) (_ : -9223372036854775808 ≤ n ∧ n ≤ 9223372036854775807) (a b : Int) (_ : -9223372036854775808 ≤ a ∧ a ≤ 9223372036854775807) (_ : -9223372036854775808 ≤ b ∧ b ≤ 9223372036854775807) (w : World) :
    Calls Try.prog 7 #[cv c, .int .i64 n, .agg #[.int .i64 a, .int .i64 b]] w fun e w' => e = .returned (.bool true) ∧ Below w.heap.size w w' := law7_go c n a b w

end Go.Proofs.Ytnbogjiddildaaa
