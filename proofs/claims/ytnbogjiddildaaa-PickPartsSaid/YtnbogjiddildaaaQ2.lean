/- The walk of the law PickParts. -/
import Derived.Test.YtnbogjiddildaaaQ1
namespace Go.Proofs.Ytnbogjiddildaaa
open Go.RowKit
set_option linter.unusedSimpArgs false
set_option linter.unusedVariables false

theorem keepSPP {c : Cfg} {g ga gb : Nat} {a : Prt} {w W W' : World} (hb : Below W.heap.size W W') (H : (W.cell? ⟨g, 0, none⟩ = some (.int .i64 c.W) ∧ W.cell? ⟨g, 1, none⟩ = some (.int .i64 c.H) ∧ W.cell? ⟨g, 2, none⟩ = some (.int .i64 c.L) ∧ W.cell? ⟨g, 3, none⟩ = some (.int .i64 c.D) ∧ W.cell? ⟨g, 4, none⟩ = some (.int .i64 c.R) ∧ W.cell? ⟨g, 5, none⟩ = some (.int .i64 c.I) ∧ W.cell? ⟨g, 6, none⟩ = some (.int .i64 c.B) ∧ W.cell? ⟨g, 7, none⟩ = some (.bool c.ws) ∧ W.cell? ⟨g, 8, none⟩ = some (.bool c.cs) ∧ g < W.heap.size ∧ Below w.heap.size w W) ∧ (W.cell? ⟨ga, 0, none⟩ = some (.int .i64 (a.k)) ∧ W.cell? ⟨ga, 1, none⟩ = some (.int .i64 (a.n)) ∧ W.cell? ⟨ga, 2, none⟩ = some (.int .i64 (a.p)) ∧ W.cell? ⟨ga, 3, none⟩ = some (.int .i64 (a.l)) ∧ W.frozen? ⟨ga, 0, none⟩ = false ∧ W.frozen? ⟨ga, 1, none⟩ = false ∧ W.frozen? ⟨ga, 2, none⟩ = false ∧ W.frozen? ⟨ga, 3, none⟩ = false ∧ ga < W.heap.size) ∧ (W.cell? ⟨gb, 0, none⟩ = some (.int .i64 (a.k)) ∧ W.cell? ⟨gb, 1, none⟩ = some (.int .i64 (a.n)) ∧ W.cell? ⟨gb, 2, none⟩ = some (.int .i64 (a.p)) ∧ W.cell? ⟨gb, 3, none⟩ = some (.int .i64 (a.l)) ∧ W.frozen? ⟨gb, 0, none⟩ = false ∧ W.frozen? ⟨gb, 1, none⟩ = false ∧ W.frozen? ⟨gb, 2, none⟩ = false ∧ W.frozen? ⟨gb, 3, none⟩ = false ∧ gb < W.heap.size)) : (W'.cell? ⟨g, 0, none⟩ = some (.int .i64 c.W) ∧ W'.cell? ⟨g, 1, none⟩ = some (.int .i64 c.H) ∧ W'.cell? ⟨g, 2, none⟩ = some (.int .i64 c.L) ∧ W'.cell? ⟨g, 3, none⟩ = some (.int .i64 c.D) ∧ W'.cell? ⟨g, 4, none⟩ = some (.int .i64 c.R) ∧ W'.cell? ⟨g, 5, none⟩ = some (.int .i64 c.I) ∧ W'.cell? ⟨g, 6, none⟩ = some (.int .i64 c.B) ∧ W'.cell? ⟨g, 7, none⟩ = some (.bool c.ws) ∧ W'.cell? ⟨g, 8, none⟩ = some (.bool c.cs) ∧ g < W'.heap.size ∧ Below w.heap.size w W') ∧ (W'.cell? ⟨ga, 0, none⟩ = some (.int .i64 (a.k)) ∧ W'.cell? ⟨ga, 1, none⟩ = some (.int .i64 (a.n)) ∧ W'.cell? ⟨ga, 2, none⟩ = some (.int .i64 (a.p)) ∧ W'.cell? ⟨ga, 3, none⟩ = some (.int .i64 (a.l)) ∧ W'.frozen? ⟨ga, 0, none⟩ = false ∧ W'.frozen? ⟨ga, 1, none⟩ = false ∧ W'.frozen? ⟨ga, 2, none⟩ = false ∧ W'.frozen? ⟨ga, 3, none⟩ = false ∧ ga < W'.heap.size) ∧ (W'.cell? ⟨gb, 0, none⟩ = some (.int .i64 (a.k)) ∧ W'.cell? ⟨gb, 1, none⟩ = some (.int .i64 (a.n)) ∧ W'.cell? ⟨gb, 2, none⟩ = some (.int .i64 (a.p)) ∧ W'.cell? ⟨gb, 3, none⟩ = some (.int .i64 (a.l)) ∧ W'.frozen? ⟨gb, 0, none⟩ = false ∧ W'.frozen? ⟨gb, 1, none⟩ = false ∧ W'.frozen? ⟨gb, 2, none⟩ = false ∧ W'.frozen? ⟨gb, 3, none⟩ = false ∧ gb < W'.heap.size) := ⟨keepS hb H.1, keepP hb H.2.1, keepP hb H.2.2⟩

set_option maxHeartbeats 1000000 in
set_option maxRecDepth 20000 in
theorem law8_w (c : Cfg) (n pk pn pp pl : Int) (h : 16 < c.W) (w : World) :
    Calls Try.prog 8 #[cv c, .int .i64 n, .agg #[.int .i64 pk, .int .i64 pn, .int .i64 pp, .int .i64 pl]] w fun e w' => e = .returned (.bool true) ∧ Below w.heap.size w w' := by
  go_enter Try.func8, Try.ntmps8
  go_wp2_with fail
  refine (f47_any _).mono ?_
  rintro e w1 ⟨rfl, hb1⟩
  have S1 := keepS hb1 (allocS _ (s0 c w))
  clear hb1
  go_wp2
  go_ret
  exact ⟨rfl, sB S1⟩

set_option maxHeartbeats 1000000 in
set_option maxRecDepth 20000 in
theorem law8_h (c : Cfg) (n pk pn pp pl : Int) (hW : c.W ≤ 16) (h : 16 < c.H) (w : World) :
    Calls Try.prog 8 #[cv c, .int .i64 n, .agg #[.int .i64 pk, .int .i64 pn, .int .i64 pp, .int .i64 pl]] w fun e w' => e = .returned (.bool true) ∧ Below w.heap.size w w' := by
  have hw0 : ¬ 16 < c.W := by omega
  go_enter Try.func8, Try.ntmps8
  go_wp2_with fail
  refine (f47_any _).mono ?_
  rintro e w1 ⟨rfl, hb1⟩
  have S1 := keepS hb1 (allocS _ (s0 c w))
  clear hb1
  go_wp2
  go_ret
  exact ⟨rfl, sB S1⟩

set_option maxHeartbeats 1000000 in
set_option maxRecDepth 20000 in
theorem law8_in (c : Cfg) (n pk pn pp pl : Int) (hW : c.W ≤ 16) (hH : c.H ≤ 16) (w : World) :
    Calls Try.prog 8 #[cv c, .int .i64 n, .agg #[.int .i64 pk, .int .i64 pn, .int .i64 pp, .int .i64 pl]] w fun e w' => e = .returned (.bool true) ∧ Below w.heap.size w w' := by
  have hw0 : ¬ 16 < c.W := by omega
  have hh0 : ¬ 16 < c.H := by omega
  obtain ⟨N, HN⟩ : ∃ r, Hd (countP c = r) := ⟨_, ⟨rfl⟩⟩
  obtain ⟨xs, HXS⟩ : ∃ n, Hd (rowP c 0 = n) := ⟨_, ⟨rfl⟩⟩
  obtain ⟨zl, HZL⟩ : ∃ n, Hd (xs.length = n) := ⟨_, ⟨rfl⟩⟩
  have HZ : Hd (eachP c = (zl : Int)) := ⟨by rw [(rowZ c).2, HXS.out, HZL.out]⟩
  obtain ⟨a, is, HA⟩ : ∃ a is, Hd (ofP c n = (a, is)) := ⟨_, _, ⟨rfl⟩⟩
  obtain ⟨k, third, HK⟩ : ∃ k third, Hd (numberP c ⟨pk, pn, pp, pl⟩ = (k, third)) := ⟨_, _, ⟨rfl⟩⟩
  have e1 : ((zl : Int) == (zl : Int)) = true := beq_self_eq_true _
  have e2 : (N == N) = true := beq_self_eq_true _
  have e3 : (k == k) = true := beq_self_eq_true _
  have q1 : ∀ W, (binOp .eql 51 (.agg #[.int .i64 a.k, .int .i64 a.n, .int .i64 a.p, .int .i64 a.l]) (.agg #[.int .i64 a.k, .int .i64 a.n, .int .i64 a.p, .int .i64 a.l])).run Try.prog W = .ok (.bool true) W := fun W => by rw [eq51_run]; simp
  have q2 : ∀ W, (Op.equalIn 10000 51 (.agg #[.int .i64 a.k, .int .i64 a.n, .int .i64 a.p, .int .i64 a.l]) (.agg #[.int .i64 a.k, .int .i64 a.n, .int .i64 a.p, .int .i64 a.l])).run Try.prog W = .ok true W := fun W => by rw [run_eq51]; simp
  go_enter Try.func8, Try.ntmps8
  go_wp2_with fail
  refine (f47_any _).mono ?_
  rintro e w1 ⟨rfl, hb1⟩
  have S1 := keepS hb1 (allocS _ (s0 c w))
  have P1 := keepP (g := w.heap.size + 1) hb1 (p0 pk pn pp pl 50 _ (by simp))
  clear hb1
  go_wp2_with fail
  refine (f48_is c n a is HA.out _).mono ?_
  rintro e w2 ⟨rfl, hb2⟩
  have S2 := keepS hb2 S1
  have P2 := keepP hb2 P1
  clear hb2 S1 P1
  go_wp2_with fail
  refine (f49_is c n a is HA.out _).mono ?_
  rintro e w3 ⟨rfl, hb3⟩
  have S3 := keepS hb3 (allocS _ S2)
  have P3 := keepP hb3 (allocP _ P2)
  have A3 := keepP (g := w2.heap.size) hb3 (p0 a.k a.n a.p a.l 51 _ rfl)
  clear hb3 S2 P2
  have hga : w2.heap.size < w3.heap.size := A3.2.2.2.2.2.2.2.2
  generalize w2.heap.size = ga at *
  go_wp2_with fail
  refine (f50_is c ⟨pk, pn, pp, pl⟩ k third HK.out _).mono ?_
  rintro e w4 ⟨rfl, hb4⟩
  have S4 := keepS hb4 (allocS _ S3)
  have P4 := keepP hb4 (allocP _ P3)
  have A4 := keepP hb4 (allocP _ A3)
  have B4 := keepP (g := w3.heap.size) hb4 (p0 a.k a.n a.p a.l 50 _ rfl)
  clear hb4 S3 P3 A3
  generalize w3.heap.size = gb at *
  go_wp2_with fail
  refine (f51_is c ⟨pk, pn, pp, pl⟩ k third HK.out _).mono ?_
  rintro e w5 ⟨rfl, hb5⟩
  have S5 := keepS hb5 S4
  have A5 := keepP hb5 A4
  have B5 := keepP hb5 B4
  clear hb5 S4 P4 A4 B4
  have T5 := And.intro S5 (And.intro A5 B5)
  clear S5 A5 B5 hga
  rcases is
  all_goals
    rcases third
    all_goals
      go_wp2_with fail
      have HT5 := Hd.mk T5
      clear T5
      go_region_held3 (fun W => (W.cell? ⟨w.heap.size, 0, none⟩ = some (.int .i64 c.W) ∧ W.cell? ⟨w.heap.size, 1, none⟩ = some (.int .i64 c.H) ∧ W.cell? ⟨w.heap.size, 2, none⟩ = some (.int .i64 c.L) ∧ W.cell? ⟨w.heap.size, 3, none⟩ = some (.int .i64 c.D) ∧ W.cell? ⟨w.heap.size, 4, none⟩ = some (.int .i64 c.R) ∧ W.cell? ⟨w.heap.size, 5, none⟩ = some (.int .i64 c.I) ∧ W.cell? ⟨w.heap.size, 6, none⟩ = some (.int .i64 c.B) ∧ W.cell? ⟨w.heap.size, 7, none⟩ = some (.bool c.ws) ∧ W.cell? ⟨w.heap.size, 8, none⟩ = some (.bool c.cs) ∧ w.heap.size < W.heap.size ∧ Below w.heap.size w W) ∧ (W.cell? ⟨ga, 0, none⟩ = some (.int .i64 (a.k)) ∧ W.cell? ⟨ga, 1, none⟩ = some (.int .i64 (a.n)) ∧ W.cell? ⟨ga, 2, none⟩ = some (.int .i64 (a.p)) ∧ W.cell? ⟨ga, 3, none⟩ = some (.int .i64 (a.l)) ∧ W.frozen? ⟨ga, 0, none⟩ = false ∧ W.frozen? ⟨ga, 1, none⟩ = false ∧ W.frozen? ⟨ga, 2, none⟩ = false ∧ W.frozen? ⟨ga, 3, none⟩ = false ∧ ga < W.heap.size) ∧ (W.cell? ⟨gb, 0, none⟩ = some (.int .i64 (a.k)) ∧ W.cell? ⟨gb, 1, none⟩ = some (.int .i64 (a.n)) ∧ W.cell? ⟨gb, 2, none⟩ = some (.int .i64 (a.p)) ∧ W.cell? ⟨gb, 3, none⟩ = some (.int .i64 (a.l)) ∧ W.frozen? ⟨gb, 0, none⟩ = false ∧ W.frozen? ⟨gb, 1, none⟩ = false ∧ W.frozen? ⟨gb, 2, none⟩ = false ∧ W.frozen? ⟨gb, 3, none⟩ = false ∧ gb < W.heap.size)) (first | exact ⟨dS HT5.out.1, HT5.out.2⟩ | exact keepSPP (by assumption) (by assumption))
        (first | (go_at_call 52; (with_reducible refine (f52_is c (zl : Int) HZ.out _).mono ?_); rintro e wq ⟨rfl, hbq⟩) | (go_at_call 53; (with_reducible refine (f53_is c 0 xs zl HXS.out HZL.out _).mono ?_); rintro e wq ⟨A, cap, rfl, hcA, hrA, hbq⟩) | (go_at_call 54; (with_reducible refine (f54_is c N HN.out _).mono ?_); rintro e wq ⟨rfl, hbq⟩) | (go_at_call 55; (with_reducible refine (f55_is c N HN.out _).mono ?_); rintro e wq ⟨rfl, hbq⟩))
      rename_i T6
      go_wp2
      go_ret
      exact ⟨rfl, sB T6.1⟩

theorem law8_calls (c : Cfg) (n : Int) (_ : -9223372036854775808 ≤ n ∧ n ≤ 9223372036854775807) (pk pn pp pl : Int) (_ : -9223372036854775808 ≤ pk ∧ pk ≤ 9223372036854775807) (_ : -9223372036854775808 ≤ pn ∧ pn ≤ 9223372036854775807) (_ : -9223372036854775808 ≤ pp ∧ pp ≤ 9223372036854775807) (_ : -9223372036854775808 ≤ pl ∧ pl ≤ 9223372036854775807) (w : World) :
    Calls Try.prog 8 #[cv c, .int .i64 n, .agg #[.int .i64 pk, .int .i64 pn, .int .i64 pp, .int .i64 pl]] w fun e w' => e = .returned (.bool true) ∧ Below w.heap.size w w' := by
  by_cases hW : 16 < c.W
  · exact law8_w c n pk pn pp pl hW w
  · by_cases hH : 16 < c.H
    · exact law8_h c n pk pn pp pl (by omega) hH w
    · exact law8_in c n pk pn pp pl (by omega) (by omega) w

end Go.Proofs.Ytnbogjiddildaaa
