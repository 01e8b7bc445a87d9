/- The example of layer 6's laws; the walk of the law TurnOptions. -/
import Derived.Test.YtnbogjiddildaaaT2
namespace Go.Proofs.Ytnbogjiddildaaa
open Go.RowKit
set_option linter.unusedSimpArgs false
set_option linter.unusedVariables false

set_option maxHeartbeats 1000000 in
set_option maxRecDepth 20000 in
theorem f57_any  (w : World) :
    Calls Try.prog 57 #[] w fun e w' => e = .returned (.bool true) ∧ Below w.heap.size w w' := by
  go_enter Try.func57, Try.ntmps57
  go_wp2_with fail
  refine (f60_any some4w 0 5 _).mono ?_
  rintro e w1 ⟨v, rfl, hr, hb1⟩
  rw [show optP some4w 0 5 = [1, 3] from by decide +kernel] at hr
  obtain ⟨A, cap, rfl, hcap, hrd⟩ := hr.rd
  have HR := Hd.mk hrd
  have B1 : Below w.heap.size w w1 := bstep (by repeat (first | exact Below.refl _ _ | refine balloc ?_ _)) hb1
  have hz1 : w.heap.size < w1.heap.size := by have := hb1.size; simp at this; omega
  obtain ⟨hc1, hf1⟩ := bcell hb1
  clear hr hrd
  go_wp2_with fail
  refine (f58_is some4w 0 5 3 (by omega) (by omega) 3 true (by decide +kernel) _).mono ?_
  rintro e w2 ⟨rfl, hb2⟩
  have B2 := bstep B1 hb2
  have HR2 := Hd.mk (HR.out.below hb2)
  clear hb2 B1 HR hc1 hf1
  obtain ⟨g, off, rfl, hg, hc⟩ := HR2.out (by simp)
  have hx := hc 0 1 rfl
  have hy := hc 1 3 rfl
  clear hc HR2
  simp only [Nat.add_zero] at hx
  go_wp2_with fail
  refine (f64_is 2 3 true (by decide) _).mono ?_
  rintro e w3 ⟨rfl, hb3⟩
  have B3 := bstep B2 hb3
  clear hx hy
  go_wp2_with fail
  refine (f64_is 3 2 false (by decide) _).mono ?_
  rintro e w4 ⟨rfl, hb4⟩
  have B4 := bstep B3 hb4
  go_wp2
  go_ret
  exact ⟨rfl, B4⟩

set_option maxHeartbeats 1000000 in
set_option maxRecDepth 20000 in
theorem law10_go (c : Cfg) (a b ch : Int) (c0 : -9223372036854775808 ≤ ch) (c1 : ch ≤ 9223372036854775807) (w : World) :
    Calls Try.prog 10 #[cv c, .agg #[.int .i64 a, .int .i64 b], .int .i64 ch] w fun e w' => e = .returned (.bool true) ∧ Below w.heap.size w w' := by
  go_enter Try.func10, Try.ntmps10
  obtain ⟨p, is, HP⟩ : ∃ p is, Hd (chooseP c a b ch = (p, is)) := ⟨_, _, ⟨rfl⟩⟩
  have hol := opt_len c a b
  go_wp2_with fail
  refine (f57_any _).mono ?_
  rintro e w1 ⟨rfl, hb1⟩
  have T1 := And.intro (keepS hb1 (allocS _ (s0 c w))) (keepE2 hb1 (e0_2 a b (h := w.heap.size + 1) _ (by simp)))
  clear hb1
  go_wp2_with fail
  refine (f58_is c a b ch c0 c1 p is HP.out _).mono ?_
  rintro e w2 ⟨rfl, hb2⟩
  have T2 := keepSE2 hb2 T1
  clear hb2 T1
  go_wp2_with fail
  refine (f59_is c a b ch c0 c1 p is HP.out _).mono ?_
  rintro e w3 ⟨rfl, hb3⟩
  have T3 := keepSE2 hb3 T2
  clear hb3 T2
  rcases is
  all_goals
    go_wp2_with fail
    have HS4 := Hd.mk T3
    clear T3
    go_region_held3 (fun W => (W.cell? ⟨w.heap.size, 0, none⟩ = some (.int .i64 c.W) ∧ W.cell? ⟨w.heap.size, 1, none⟩ = some (.int .i64 c.H) ∧ W.cell? ⟨w.heap.size, 2, none⟩ = some (.int .i64 c.L) ∧ W.cell? ⟨w.heap.size, 3, none⟩ = some (.int .i64 c.D) ∧ W.cell? ⟨w.heap.size, 4, none⟩ = some (.int .i64 c.R) ∧ W.cell? ⟨w.heap.size, 5, none⟩ = some (.int .i64 c.I) ∧ W.cell? ⟨w.heap.size, 6, none⟩ = some (.int .i64 c.B) ∧ W.cell? ⟨w.heap.size, 7, none⟩ = some (.bool c.ws) ∧ W.cell? ⟨w.heap.size, 8, none⟩ = some (.bool c.cs) ∧ w.heap.size < W.heap.size ∧ Below w.heap.size w W) ∧ (W.cell? ⟨w.heap.size + 1, 0, none⟩ = some (.int .i64 a) ∧ W.cell? ⟨w.heap.size + 1, 1, none⟩ = some (.int .i64 b) ∧ w.heap.size + 1 < W.heap.size)) (first | exact ⟨dS HS4.out.1, HS4.out.2⟩ | exact keepSE2 (by assumption) (by assumption))
      (first | (go_at_call 60; (with_reducible refine (f60_any c a b _).mono ?_); rintro e wc ⟨vc, rfl, hrc, hbq⟩; obtain ⟨C, cc, rfl, hcc, hrdc⟩ := hrc.rd; have HC := Hd.mk hrdc; clear hrc hrdc) | (go_at_call 61; (with_reducible refine (f61_any c a b _).mono ?_); rintro e wd ⟨vd, rfl, hrd, hbq⟩; obtain ⟨D, cd, rfl, hcd, hrdd⟩ := hrd.rd; have HC2 := Hd.mk (Rd.below HC.out hbq); have HD := Hd.mk hrdd; clear hrd hrdd) | (go_at_call 28; refine (f28_eq C D cc cd _ (by omega) _ HC2.out HD.out).mono ?_; rintro e we ⟨rfl, hbq⟩))
    rename_i T4
    clear HS4
    go_wp2
    go_ret
    exact ⟨rfl, sB T4.1⟩

theorem law10_calls (c : Cfg) (a b : Int) (_ : -9223372036854775808 ≤ a ∧ a ≤ 9223372036854775807) (_ : -9223372036854775808 ≤ b ∧ b ≤ 9223372036854775807) (ch : Int) (hc : -9223372036854775808 ≤ ch ∧ ch ≤ 9223372036854775807) (w : World) :
    Calls Try.prog 10 #[cv c, .agg #[.int .i64 a, .int .i64 b], .int .i64 ch] w fun e w' => e = .returned (.bool true) ∧ Below w.heap.size w w' := law10_go c a b ch hc.1 hc.2 w

end Go.Proofs.Ytnbogjiddildaaa
