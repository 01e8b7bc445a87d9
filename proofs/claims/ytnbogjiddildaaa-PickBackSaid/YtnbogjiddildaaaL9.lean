/- The walk of the law PickBack. -/
import Derived.Test.YtnbogjiddildaaaP4
import Derived.Test.YtnbogjiddildaaaP5
namespace Go.Proofs.Ytnbogjiddildaaa
open Go.RowKit
set_option linter.unusedSimpArgs false
set_option linter.unusedVariables false

theorem storesP {g h : Nat} {k n p l : Int} {s : Cfg} {W : World} (hne : g ≠ h) (H : W.cell? ⟨h, 0, none⟩ = some (.int .i64 (k)) ∧ W.cell? ⟨h, 1, none⟩ = some (.int .i64 (n)) ∧ W.cell? ⟨h, 2, none⟩ = some (.int .i64 (p)) ∧ W.cell? ⟨h, 3, none⟩ = some (.int .i64 (l)) ∧ W.frozen? ⟨h, 0, none⟩ = false ∧ W.frozen? ⟨h, 1, none⟩ = false ∧ W.frozen? ⟨h, 2, none⟩ = false ∧ W.frozen? ⟨h, 3, none⟩ = false ∧ h < W.heap.size) : (((((((((W.setCell ⟨g, 0, none⟩ (.int .i64 s.W)).setCell ⟨g, 1, none⟩ (.int .i64 s.H)).setCell ⟨g, 2, none⟩ (.int .i64 s.L)).setCell ⟨g, 3, none⟩ (.int .i64 s.D)).setCell ⟨g, 4, none⟩ (.int .i64 s.R)).setCell ⟨g, 5, none⟩ (.int .i64 s.I)).setCell ⟨g, 6, none⟩ (.int .i64 s.B)).setCell ⟨g, 7, none⟩ (.bool s.ws)).setCell ⟨g, 8, none⟩ (.bool s.cs)).cell? ⟨h, 0, none⟩ = some (.int .i64 (k)) ∧ (((((((((W.setCell ⟨g, 0, none⟩ (.int .i64 s.W)).setCell ⟨g, 1, none⟩ (.int .i64 s.H)).setCell ⟨g, 2, none⟩ (.int .i64 s.L)).setCell ⟨g, 3, none⟩ (.int .i64 s.D)).setCell ⟨g, 4, none⟩ (.int .i64 s.R)).setCell ⟨g, 5, none⟩ (.int .i64 s.I)).setCell ⟨g, 6, none⟩ (.int .i64 s.B)).setCell ⟨g, 7, none⟩ (.bool s.ws)).setCell ⟨g, 8, none⟩ (.bool s.cs)).cell? ⟨h, 1, none⟩ = some (.int .i64 (n)) ∧ (((((((((W.setCell ⟨g, 0, none⟩ (.int .i64 s.W)).setCell ⟨g, 1, none⟩ (.int .i64 s.H)).setCell ⟨g, 2, none⟩ (.int .i64 s.L)).setCell ⟨g, 3, none⟩ (.int .i64 s.D)).setCell ⟨g, 4, none⟩ (.int .i64 s.R)).setCell ⟨g, 5, none⟩ (.int .i64 s.I)).setCell ⟨g, 6, none⟩ (.int .i64 s.B)).setCell ⟨g, 7, none⟩ (.bool s.ws)).setCell ⟨g, 8, none⟩ (.bool s.cs)).cell? ⟨h, 2, none⟩ = some (.int .i64 (p)) ∧ (((((((((W.setCell ⟨g, 0, none⟩ (.int .i64 s.W)).setCell ⟨g, 1, none⟩ (.int .i64 s.H)).setCell ⟨g, 2, none⟩ (.int .i64 s.L)).setCell ⟨g, 3, none⟩ (.int .i64 s.D)).setCell ⟨g, 4, none⟩ (.int .i64 s.R)).setCell ⟨g, 5, none⟩ (.int .i64 s.I)).setCell ⟨g, 6, none⟩ (.int .i64 s.B)).setCell ⟨g, 7, none⟩ (.bool s.ws)).setCell ⟨g, 8, none⟩ (.bool s.cs)).cell? ⟨h, 3, none⟩ = some (.int .i64 (l)) ∧ (((((((((W.setCell ⟨g, 0, none⟩ (.int .i64 s.W)).setCell ⟨g, 1, none⟩ (.int .i64 s.H)).setCell ⟨g, 2, none⟩ (.int .i64 s.L)).setCell ⟨g, 3, none⟩ (.int .i64 s.D)).setCell ⟨g, 4, none⟩ (.int .i64 s.R)).setCell ⟨g, 5, none⟩ (.int .i64 s.I)).setCell ⟨g, 6, none⟩ (.int .i64 s.B)).setCell ⟨g, 7, none⟩ (.bool s.ws)).setCell ⟨g, 8, none⟩ (.bool s.cs)).frozen? ⟨h, 0, none⟩ = false ∧ (((((((((W.setCell ⟨g, 0, none⟩ (.int .i64 s.W)).setCell ⟨g, 1, none⟩ (.int .i64 s.H)).setCell ⟨g, 2, none⟩ (.int .i64 s.L)).setCell ⟨g, 3, none⟩ (.int .i64 s.D)).setCell ⟨g, 4, none⟩ (.int .i64 s.R)).setCell ⟨g, 5, none⟩ (.int .i64 s.I)).setCell ⟨g, 6, none⟩ (.int .i64 s.B)).setCell ⟨g, 7, none⟩ (.bool s.ws)).setCell ⟨g, 8, none⟩ (.bool s.cs)).frozen? ⟨h, 1, none⟩ = false ∧ (((((((((W.setCell ⟨g, 0, none⟩ (.int .i64 s.W)).setCell ⟨g, 1, none⟩ (.int .i64 s.H)).setCell ⟨g, 2, none⟩ (.int .i64 s.L)).setCell ⟨g, 3, none⟩ (.int .i64 s.D)).setCell ⟨g, 4, none⟩ (.int .i64 s.R)).setCell ⟨g, 5, none⟩ (.int .i64 s.I)).setCell ⟨g, 6, none⟩ (.int .i64 s.B)).setCell ⟨g, 7, none⟩ (.bool s.ws)).setCell ⟨g, 8, none⟩ (.bool s.cs)).frozen? ⟨h, 2, none⟩ = false ∧ (((((((((W.setCell ⟨g, 0, none⟩ (.int .i64 s.W)).setCell ⟨g, 1, none⟩ (.int .i64 s.H)).setCell ⟨g, 2, none⟩ (.int .i64 s.L)).setCell ⟨g, 3, none⟩ (.int .i64 s.D)).setCell ⟨g, 4, none⟩ (.int .i64 s.R)).setCell ⟨g, 5, none⟩ (.int .i64 s.I)).setCell ⟨g, 6, none⟩ (.int .i64 s.B)).setCell ⟨g, 7, none⟩ (.bool s.ws)).setCell ⟨g, 8, none⟩ (.bool s.cs)).frozen? ⟨h, 3, none⟩ = false ∧ h < (((((((((W.setCell ⟨g, 0, none⟩ (.int .i64 s.W)).setCell ⟨g, 1, none⟩ (.int .i64 s.H)).setCell ⟨g, 2, none⟩ (.int .i64 s.L)).setCell ⟨g, 3, none⟩ (.int .i64 s.D)).setCell ⟨g, 4, none⟩ (.int .i64 s.R)).setCell ⟨g, 5, none⟩ (.int .i64 s.I)).setCell ⟨g, 6, none⟩ (.int .i64 s.B)).setCell ⟨g, 7, none⟩ (.bool s.ws)).setCell ⟨g, 8, none⟩ (.bool s.cs)).heap.size := by
  obtain ⟨h0, h1, h2, h3, h4, h5, h6, h7, hg⟩ := H
  refine ⟨?_, ?_, ?_, ?_, ?_, ?_, ?_, ?_, by simp [World.setCell]; exact hg⟩
  · (repeat rw [World.cell?_setCell_far _ _ _ _ (by exact hne)]); exact h0
  · (repeat rw [World.cell?_setCell_far _ _ _ _ (by exact hne)]); exact h1
  · (repeat rw [World.cell?_setCell_far _ _ _ _ (by exact hne)]); exact h2
  · (repeat rw [World.cell?_setCell_far _ _ _ _ (by exact hne)]); exact h3
  · simp only [World.frozen?_setCell]; exact h4
  · simp only [World.frozen?_setCell]; exact h5
  · simp only [World.frozen?_setCell]; exact h6
  · simp only [World.frozen?_setCell]; exact h7

set_option maxHeartbeats 4000000 in
set_option maxRecDepth 20000 in
theorem law9_go (c : Cfg) (n pk pn pp pl : Int) (w : World) :
    Calls Try.prog 9 #[cv c, .int .i64 n, .agg #[.int .i64 pk, .int .i64 pn, .int .i64 pp, .int .i64 pl]] w fun e w' => e = .returned (.bool true) ∧ Below w.heap.size w w' := by
  go_enter Try.func9, Try.ntmps9
  go_wp2_with fail
  refine (f47_any _).mono ?_
  rintro e w1 ⟨rfl, hb1⟩
  have S1 := keepS hb1 (allocS _ (s0 c w))
  have P1 := keepP (g := w.heap.size + 1) hb1 (p0 pk pn pp pl 50 _ (by simp))
  have F1 := keepF hb1 (by simp; omega) (allocF _ (by simp) (fz0 c w))
  clear hb1
  go_wp2_with fail
  refine (f31_sm c _).mono ?_
  rintro e w2 ⟨s, hsm, rfl, hb2⟩
  have S2 := keepS hb2 S1
  have P2 := keepP hb2 P1
  have F2 := keepF hb2 S1.2.2.2.2.2.2.2.2.2.1 F1
  clear hb2 S1 P1 F1
  go_wp2_with fail
  have S3 := storesS (s := s) (Nat.le_refl _) S2
  have P3 := storesP (s := s) (g := w.heap.size) (by omega) P2
  clear S2 P2 F2
  generalize (((((((((w2.setCell ⟨w.heap.size, 0, none⟩ (.int .i64 s.W)).setCell ⟨w.heap.size, 1, none⟩ (.int .i64 s.H)).setCell ⟨w.heap.size, 2, none⟩ (.int .i64 s.L)).setCell ⟨w.heap.size, 3, none⟩ (.int .i64 s.D)).setCell ⟨w.heap.size, 4, none⟩ (.int .i64 s.R)).setCell ⟨w.heap.size, 5, none⟩ (.int .i64 s.I)).setCell ⟨w.heap.size, 6, none⟩ (.int .i64 s.B)).setCell ⟨w.heap.size, 7, none⟩ (.bool s.ws)).setCell ⟨w.heap.size, 8, none⟩ (.bool s.cs)) = w3 at S3 P3 ⊢
  obtain ⟨N, HN⟩ : ∃ r, Hd (countP s = r) := ⟨_, ⟨rfl⟩⟩
  obtain ⟨a, is, HA⟩ : ∃ a is, Hd (ofP s n = (a, is)) := ⟨_, _, ⟨rfl⟩⟩
  obtain ⟨m, was, HM⟩ : ∃ m was, Hd (numberP s a = (m, was)) := ⟨_, _, ⟨rfl⟩⟩
  obtain ⟨k, third, HK⟩ : ∃ k third, Hd (numberP s ⟨pk, pn, pp, pl⟩ = (k, third)) := ⟨_, _, ⟨rfl⟩⟩
  obtain ⟨b, fourth, HB⟩ : ∃ b fourth, Hd (ofP s k = (b, fourth)) := ⟨_, _, ⟨rfl⟩⟩
  go_wp2_with fail
  refine (f48_is s n a is HA.out _).mono ?_
  rintro e w4 ⟨rfl, hb4⟩
  have S4 := keepS hb4 S3
  have P4 := keepP hb4 P3
  clear hb4 S3 P3
  go_wp2_with fail
  refine (f50_is s a m was HM.out _).mono ?_
  rintro e w5 ⟨rfl, hb5⟩
  have S5 := keepS hb5 (allocS _ S4)
  have P5 := keepP hb5 (allocP _ P4)
  have A5 := keepP (g := w4.heap.size) hb5 (p0 a.k a.n a.p a.l 51 _ rfl)
  clear hb5 S4 P4
  go_wp2_with fail
  refine (f50_is s ⟨pk, pn, pp, pl⟩ k third HK.out _).mono ?_
  rintro e w6 ⟨rfl, hb6⟩
  have S6 := keepS hb6 S5
  have P6 := keepP hb6 P5
  have A6 := keepP hb6 A5
  clear hb6 S5 P5 A5
  go_wp2_with fail
  refine (f48_is s k b fourth HB.out _).mono ?_
  rintro e w7 ⟨rfl, hb7⟩
  have S7 := keepS hb7 S6
  have P7 := keepP hb7 P6
  have A7 := keepP hb7 A6
  clear hb7 S6 P6 A6
  have S8 := allocS (.cells #[.int .i64 b.k, .int .i64 b.n, .int .i64 b.p, .int .i64 b.l] 51) S7
  have P8 := allocP (.cells #[.int .i64 b.k, .int .i64 b.n, .int .i64 b.p, .int .i64 b.l] 51) P7
  have A8 := allocP (.cells #[.int .i64 b.k, .int .i64 b.n, .int .i64 b.p, .int .i64 b.l] 51) A7
  have C8 := p0 b.k b.n b.p b.l 51 w7 rfl
  have h34 : third = true → fourth = true ∧ b = ⟨pk, pn, pp, pl⟩ := fun h => by
    have h1 := HK.out
    rw [h] at h1
    have h2 := of_number h1
    rw [HB.out] at h2
    injection h2 with h3 h4
    exact ⟨h4, h3⟩
  have H34 := Hd.mk h34
  clear h34 S7 P7 A7
  rcases third with _ | _
  · by_cases n0 : 0 ≤ n
    · by_cases n1 : n < N
      · have hof := number_of n0 (show n < countP s by rw [HN.out]; exact n1)
        rw [HA.out] at hof
        obtain ⟨hn1, hk0, hk6⟩ := hof
        rw [HM.out] at hn1
        injection hn1 with e1 e2
        subst e1 e2
        have his : is = true := by
          have h := ofP_yes n0 (show m < countP s by rw [HN.out]; exact n1)
          rw [HA.out] at h; injection h
        subst his
        go_wp2_with fail
        refine (f54_is s N HN.out _).mono ?_
        rintro e w9 ⟨rfl, hb9⟩
        have S9 := keepS hb9 S8
        have P9 := keepP hb9 P8
        have A9 := keepP hb9 A8
        have C9 := keepP hb9 C8
        clear hb9 S8 P8 A8 C8
        have hk : a.k = 0 ∨ a.k = 1 ∨ a.k = 2 ∨ a.k = 3 ∨ a.k = 4 ∨ a.k = 5 ∨ a.k = 6 := by omega
        obtain ⟨ak, an, ap, al⟩ := a
        simp only at hk
        rcases hk with rfl | rfl | rfl | rfl | rfl | rfl | rfl
        all_goals
          go_wp2_with fail
          first | (with_reducible refine (f56_0 _).mono ?_) | (with_reducible refine (f56_1 _).mono ?_) | (with_reducible refine (f56_2 _).mono ?_) | (with_reducible refine (f56_3 _).mono ?_) | (with_reducible refine (f56_4 _).mono ?_) | (with_reducible refine (f56_5 _).mono ?_) | (with_reducible refine (f56_6 _).mono ?_)
          rintro e wa ⟨rfl, hba⟩
          have Sa := keepS hba S9
          have Pa := keepP hba P9
          have Ca := keepP hba C9
          clear hba S9 P9 A9 C9
          go_wp2
          go_ret
          exact ⟨rfl, sB Sa⟩
      · have his : is = false := by
          have h := ofP_no (c := s) (n := n) (by rw [HN.out]; omega)
          rw [HA.out] at h; injection h
        subst his
        go_wp2_with fail
        refine (f54_is s N HN.out _).mono ?_
        rintro e w9 ⟨rfl, hb9⟩
        have S9 := keepS hb9 S8
        have P9 := keepP hb9 P8
        have A9 := keepP hb9 A8
        have C9 := keepP hb9 C8
        clear hb9 S8 P8 A8 C8
        go_wp2
        go_ret
        exact ⟨ret_bool (by rw [decide_eq_false (by omega)]; rfl), sB S9⟩
    · have his : is = false := by
        have h := ofP_no (c := s) (n := n) (by omega)
        rw [HA.out] at h; injection h
      subst his
      go_wp2
      go_ret
      exact ⟨rfl, sB S8⟩
  · obtain ⟨hf, hbb⟩ := H34.out rfl
    subst hf
    subst hbb
    have q1 : ∀ W, (binOp .eql 51 (.agg #[.int .i64 pk, .int .i64 pn, .int .i64 pp, .int .i64 pl]) (.agg #[.int .i64 pk, .int .i64 pn, .int .i64 pp, .int .i64 pl])).run Try.prog W = .ok (.bool true) W := fun W => by rw [eq51_run]; simp
    have q2 : ∀ W, (Op.equalIn 10000 51 (.agg #[.int .i64 pk, .int .i64 pn, .int .i64 pp, .int .i64 pl]) (.agg #[.int .i64 pk, .int .i64 pn, .int .i64 pp, .int .i64 pl])).run Try.prog W = .ok true W := fun W => by rw [run_eq51]; simp
    by_cases n0 : 0 ≤ n
    · by_cases n1 : n < N
      · have hof := number_of n0 (show n < countP s by rw [HN.out]; exact n1)
        rw [HA.out] at hof
        obtain ⟨hn1, hk0, hk6⟩ := hof
        rw [HM.out] at hn1
        injection hn1 with e1 e2
        subst e1 e2
        have his : is = true := by
          have h := ofP_yes n0 (show m < countP s by rw [HN.out]; exact n1)
          rw [HA.out] at h; injection h
        subst his
        go_wp2_with fail
        refine (f54_is s N HN.out _).mono ?_
        rintro e w9 ⟨rfl, hb9⟩
        have S9 := keepS hb9 S8
        have P9 := keepP hb9 P8
        have A9 := keepP hb9 A8
        have C9 := keepP hb9 C8
        clear hb9 S8 P8 A8 C8
        have hk : a.k = 0 ∨ a.k = 1 ∨ a.k = 2 ∨ a.k = 3 ∨ a.k = 4 ∨ a.k = 5 ∨ a.k = 6 := by omega
        obtain ⟨ak, an, ap, al⟩ := a
        simp only at hk
        rcases hk with rfl | rfl | rfl | rfl | rfl | rfl | rfl
        all_goals
          go_wp2_with fail
          first | (with_reducible refine (f56_0 _).mono ?_) | (with_reducible refine (f56_1 _).mono ?_) | (with_reducible refine (f56_2 _).mono ?_) | (with_reducible refine (f56_3 _).mono ?_) | (with_reducible refine (f56_4 _).mono ?_) | (with_reducible refine (f56_5 _).mono ?_) | (with_reducible refine (f56_6 _).mono ?_)
          rintro e wa ⟨rfl, hba⟩
          have Sa := keepS hba S9
          have Pa := keepP hba P9
          have Ca := keepP hba C9
          clear hba S9 P9 A9 C9
          go_wp2
          go_ret
          exact ⟨rfl, sB Sa⟩
      · have his : is = false := by
          have h := ofP_no (c := s) (n := n) (by rw [HN.out]; omega)
          rw [HA.out] at h; injection h
        subst his
        go_wp2_with fail
        refine (f54_is s N HN.out _).mono ?_
        rintro e w9 ⟨rfl, hb9⟩
        have S9 := keepS hb9 S8
        have P9 := keepP hb9 P8
        have A9 := keepP hb9 A8
        have C9 := keepP hb9 C8
        clear hb9 S8 P8 A8 C8
        go_wp2
        go_ret
        exact ⟨ret_bool (by rw [decide_eq_false (by omega)]; rfl), sB S9⟩
    · have his : is = false := by
        have h := ofP_no (c := s) (n := n) (by omega)
        rw [HA.out] at h; injection h
      subst his
      go_wp2
      go_ret
      exact ⟨rfl, sB S8⟩

theorem law9_calls (c : Cfg) (n : Int) (_ : -9223372036854775808 ≤ n ∧ n ≤ 9223372036854775807) (a b d f : Int) (_ : -9223372036854775808 ≤ a ∧ a ≤ 9223372036854775807) (_ : -9223372036854775808 ≤ b ∧ b ≤ 9223372036854775807) (_ : -9223372036854775808 ≤ d ∧ d ≤ 9223372036854775807) (_ : -9223372036854775808 ≤ f ∧ f ≤ 9223372036854775807) (w : World) :
    Calls Try.prog 9 #[cv c, .int .i64 n, .agg #[.int .i64 a, .int .i64 b, .int .i64 d, .int .i64 f]] w fun e w' => e = .returned (.bool true) ∧ Below w.heap.size w w' := law9_go c n a b d f w

end Go.Proofs.Ytnbogjiddildaaa
