/- The walk of the law GridPlaces. -/
import Derived.Test.YtnbogjiddildaaaJ
import Derived.Test.YtnbogjiddildaaaL0
namespace Go.Proofs.Ytnbogjiddildaaa
open Go.RowKit
set_option linter.unusedSimpArgs false
set_option linter.unusedVariables false

theorem f33_is' (c : Cfg) (a b d : Int) (h : farP c a b = d) (w : World) : Calls Try.prog 33 #[cv c, .int .i64 a, .int .i64 b] w fun e w' => e = .returned (.int .i64 d) ∧ Below w.heap.size w w' := by
  subst h; exact f33_any c a b w

theorem f45_is (c : Cfg) (a b d : Int) (h : farP c a b = d) (w : World) : Calls Try.prog 45 #[cv c, .int .i64 a, .int .i64 b] w fun e w' => e = .returned (.int .i64 d) ∧ Below w.heap.size w w' := by
  subst h; exact f45_any c a b w

theorem f36_is (c : Cfg) (x y n e : Int) (h : atP c x y = (n, e)) (w : World) : Calls Try.prog 36 #[cv c, .int .i64 x, .int .i64 y] w fun e' w' => e' = .returned (.tuple #[.int .i64 n, .int .i64 e]) ∧ Below w.heap.size w w' := by
  have := f36_any c x y w
  rw [h] at this
  exact this

theorem f37_is (c : Cfg) (x y n e : Int) (h : atP c x y = (n, e)) (w : World) : Calls Try.prog 37 #[cv c, .int .i64 x, .int .i64 y] w fun e' w' => e' = .returned (.tuple #[.int .i64 n, .int .i64 e]) ∧ Below w.heap.size w w' := by
  have := f37_any c x y w
  rw [h] at this
  exact this

theorem f43_is (p q : Int) (h : backP p = q) (w : World) : Calls Try.prog 43 #[.int .i64 p] w fun e w' => e = .returned (.int .i64 q) ∧ Below w.heap.size w w' := by
  subst h; exact f43_any p w

theorem f44_is (p q : Int) (h : backP p = q) (w : World) : Calls Try.prog 44 #[.int .i64 p] w fun e w' => e = .returned (.int .i64 q) ∧ Below w.heap.size w w' := by
  subst h; exact f44_any p w

set_option maxHeartbeats 1000000 in
set_option maxRecDepth 20000 in
theorem law5_yes (c : Cfg) (a b k : Int) (h : isB c a = true) (w : World) :
    Calls Try.prog 5 #[cv c, .agg #[.int .i64 a, .int .i64 b, .int .i64 k]] w fun e w' => e = .returned (.bool true) ∧ Below w.heap.size w w' := by
  obtain ⟨n, er, HAt⟩ : ∃ n er, Hd (atP c a b = (n, er)) := ⟨_, _, ⟨rfl⟩⟩
  obtain ⟨m, is, HM⟩ : ∃ m is, Hd (besideP c a k = (m, is)) := ⟨_, _, ⟨rfl⟩⟩
  obtain ⟨d, HD⟩ : ∃ d, Hd (farP c a b = d) := ⟨_, ⟨rfl⟩⟩
  obtain ⟨q, HQ⟩ : ∃ d, Hd (backP k = d) := ⟨_, ⟨rfl⟩⟩
  have HB := Hd.mk h
  have hi := inn h
  have n0 := hi.n0
  have n1 := hi.n1
  have k1 := (chk_okc (isB_chk h)).W1
  have k2 := (chk_okc (isB_chk h)).W2
  have HP := Hd.mk (place_yes h)
  clear hi h
  go_enter Try.func5, Try.ntmps5
  go_wp2_with fail
  refine (f25_any _).mono ?_
  rintro e w1 ⟨rfl, hb1⟩
  have T1 := And.intro (keepS hb1 (allocS _ (s0 c w))) (keepE3 hb1 (e0_3 a b k (h := w.heap.size + 1) _ (by simp)))
  clear hb1
  go_wp2_with fail
  refine (f35_is c a _ _ _ HP.out _).mono ?_
  rintro e w2 ⟨rfl, hb2⟩
  have T2 := keepSE3 hb2 T1
  clear hb2 T1
  go_wp2_with fail
  refine (f36_is c a b n er HAt.out _).mono ?_
  rintro e w3 ⟨rfl, hb3⟩
  have T3 := keepSE3 hb3 T2
  clear hb3 T2
  go_wp2_with fail
  refine (f37_is c a b n er HAt.out _).mono ?_
  rintro e w4 ⟨rfl, hb4⟩
  have T4 := keepSE3 hb4 T3
  clear hb4 T3
  go_wp2_with fail
  refine (f38_is c a true HB.out _).mono ?_
  rintro e w5 ⟨rfl, hb5⟩
  have T5 := keepSE3 hb5 T4
  clear hb5 T4
  go_wp2_with fail
  refine (f39_any c a n0 n1 k1 k2 _).mono ?_
  rintro e w6 ⟨rfl, hb6⟩
  have T6 := keepSE3 hb6 T5
  clear hb6 T5
  go_wp2_with fail
  refine (f40_any c a n0 n1 k1 k2 _).mono ?_
  rintro e w7 ⟨rfl, hb7⟩
  have T7 := keepSE3 hb7 T6
  clear hb7 T6
  go_wp2_with fail
  refine (f34_is c a k m is HM.out _).mono ?_
  rintro e w8 ⟨rfl, hb8⟩
  have T8 := keepSE3 hb8 T7
  clear hb8 T7
  go_wp2_with fail
  refine (f41_is c a k m is HM.out _).mono ?_
  rintro e w9 ⟨rfl, hb9⟩
  have T9 := keepSE3 hb9 T8
  clear hb9 T8
  go_wp2_with fail
  have HSE := Hd.mk T9
  clear T9
  go_region_held3 (fun W => (W.cell? ⟨w.heap.size, 0, none⟩ = some (.int .i64 c.W) ∧ W.cell? ⟨w.heap.size, 1, none⟩ = some (.int .i64 c.H) ∧ W.cell? ⟨w.heap.size, 2, none⟩ = some (.int .i64 c.L) ∧ W.cell? ⟨w.heap.size, 3, none⟩ = some (.int .i64 c.D) ∧ W.cell? ⟨w.heap.size, 4, none⟩ = some (.int .i64 c.R) ∧ W.cell? ⟨w.heap.size, 5, none⟩ = some (.int .i64 c.I) ∧ W.cell? ⟨w.heap.size, 6, none⟩ = some (.int .i64 c.B) ∧ W.cell? ⟨w.heap.size, 7, none⟩ = some (.bool c.ws) ∧ W.cell? ⟨w.heap.size, 8, none⟩ = some (.bool c.cs) ∧ w.heap.size < W.heap.size ∧ Below w.heap.size w W) ∧ (W.cell? ⟨w.heap.size + 1, 0, none⟩ = some (.int .i64 a) ∧ W.cell? ⟨w.heap.size + 1, 1, none⟩ = some (.int .i64 b) ∧ W.cell? ⟨w.heap.size + 1, 2, none⟩ = some (.int .i64 k) ∧ w.heap.size + 1 < W.heap.size)) (first | exact ⟨dS HSE.out.1, HSE.out.2⟩ | exact keepSE3 (by assumption) (by assumption))
    (first | (go_at_call 42; (with_reducible refine (f42_is c a true HB.out _).mono ?_); rintro e wa ⟨rfl, hba⟩) | (go_at_call 43; (with_reducible refine (f43_is k q HQ.out _).mono ?_); rintro e wa ⟨rfl, hba⟩) | (go_at_call 44; (with_reducible refine (f44_is k q HQ.out _).mono ?_); rintro e wa ⟨rfl, hba⟩) | (go_at_call 33; (with_reducible refine (f33_is' c a b d HD.out _).mono ?_); rintro e wa ⟨rfl, hba⟩) | (go_at_call 45; (with_reducible refine (f45_is c a b d HD.out _).mono ?_); rintro e wa ⟨rfl, hba⟩))
  rename_i T10
  have HX := Hd.mk (sB T10.1)
  clear HSE T10
  go_wp2
  go_ret
  exact ⟨rfl, HX.out⟩

set_option maxHeartbeats 1000000 in
set_option maxRecDepth 20000 in
theorem law5_no (c : Cfg) (a b k : Int) (h : isB c a = false) (w : World) :
    Calls Try.prog 5 #[cv c, .agg #[.int .i64 a, .int .i64 b, .int .i64 k]] w fun e w' => e = .returned (.bool true) ∧ Below w.heap.size w w' := by
  obtain ⟨n, er, HAt⟩ : ∃ n er, Hd (atP c a b = (n, er)) := ⟨_, _, ⟨rfl⟩⟩
  obtain ⟨m, is, HM⟩ : ∃ m is, Hd (besideP c a k = (m, is)) := ⟨_, _, ⟨rfl⟩⟩
  obtain ⟨d, HD⟩ : ∃ d, Hd (farP c a b = d) := ⟨_, ⟨rfl⟩⟩
  obtain ⟨q, HQ⟩ : ∃ d, Hd (backP k = d) := ⟨_, ⟨rfl⟩⟩
  have HB := Hd.mk h
  have HP := Hd.mk (place_no h)
  clear h
  go_enter Try.func5, Try.ntmps5
  go_wp2_with fail
  refine (f25_any _).mono ?_
  rintro e w1 ⟨rfl, hb1⟩
  have T1 := And.intro (keepS hb1 (allocS _ (s0 c w))) (keepE3 hb1 (e0_3 a b k (h := w.heap.size + 1) _ (by simp)))
  clear hb1
  go_wp2_with fail
  refine (f35_is c a _ _ _ HP.out _).mono ?_
  rintro e w2 ⟨rfl, hb2⟩
  have T2 := keepSE3 hb2 T1
  clear hb2 T1
  go_wp2_with fail
  refine (f36_is c a b n er HAt.out _).mono ?_
  rintro e w3 ⟨rfl, hb3⟩
  have T3 := keepSE3 hb3 T2
  clear hb3 T2
  go_wp2_with fail
  refine (f37_is c a b n er HAt.out _).mono ?_
  rintro e w4 ⟨rfl, hb4⟩
  have T4 := keepSE3 hb4 T3
  clear hb4 T3
  go_wp2_with fail
  refine (f38_is c a false HB.out _).mono ?_
  rintro e w5 ⟨rfl, hb5⟩
  have T5 := keepSE3 hb5 T4
  clear hb5 T4
  go_wp2_with fail
  refine (f34_is c a k m is HM.out _).mono ?_
  rintro e w8 ⟨rfl, hb8⟩
  have T8 := keepSE3 hb8 T5
  clear hb8 T5
  go_wp2_with fail
  refine (f41_is c a k m is HM.out _).mono ?_
  rintro e w9 ⟨rfl, hb9⟩
  have T9 := keepSE3 hb9 T8
  clear hb9 T8
  go_wp2_with fail
  have HSE := Hd.mk T9
  clear T9
  go_region_held3 (fun W => (W.cell? ⟨w.heap.size, 0, none⟩ = some (.int .i64 c.W) ∧ W.cell? ⟨w.heap.size, 1, none⟩ = some (.int .i64 c.H) ∧ W.cell? ⟨w.heap.size, 2, none⟩ = some (.int .i64 c.L) ∧ W.cell? ⟨w.heap.size, 3, none⟩ = some (.int .i64 c.D) ∧ W.cell? ⟨w.heap.size, 4, none⟩ = some (.int .i64 c.R) ∧ W.cell? ⟨w.heap.size, 5, none⟩ = some (.int .i64 c.I) ∧ W.cell? ⟨w.heap.size, 6, none⟩ = some (.int .i64 c.B) ∧ W.cell? ⟨w.heap.size, 7, none⟩ = some (.bool c.ws) ∧ W.cell? ⟨w.heap.size, 8, none⟩ = some (.bool c.cs) ∧ w.heap.size < W.heap.size ∧ Below w.heap.size w W) ∧ (W.cell? ⟨w.heap.size + 1, 0, none⟩ = some (.int .i64 a) ∧ W.cell? ⟨w.heap.size + 1, 1, none⟩ = some (.int .i64 b) ∧ W.cell? ⟨w.heap.size + 1, 2, none⟩ = some (.int .i64 k) ∧ w.heap.size + 1 < W.heap.size)) (first | exact ⟨dS HSE.out.1, HSE.out.2⟩ | exact keepSE3 (by assumption) (by assumption))
    (first | (go_at_call 42; (with_reducible refine (f42_is c a false HB.out _).mono ?_); rintro e wa ⟨rfl, hba⟩) | (go_at_call 43; (with_reducible refine (f43_is k q HQ.out _).mono ?_); rintro e wa ⟨rfl, hba⟩) | (go_at_call 44; (with_reducible refine (f44_is k q HQ.out _).mono ?_); rintro e wa ⟨rfl, hba⟩) | (go_at_call 33; (with_reducible refine (f33_is' c a b d HD.out _).mono ?_); rintro e wa ⟨rfl, hba⟩) | (go_at_call 45; (with_reducible refine (f45_is c a b d HD.out _).mono ?_); rintro e wa ⟨rfl, hba⟩))
  rename_i T10
  have HX := Hd.mk (sB T10.1)
  clear HSE T10
  go_wp2
  go_ret
  exact ⟨rfl, HX.out⟩

theorem law5_calls (c : Cfg) (a b k : Int) (_ : -9223372036854775808 ≤ a ∧ a ≤ 9223372036854775807) (_ : -9223372036854775808 ≤ b ∧ b ≤ 9223372036854775807) (_ : -9223372036854775808 ≤ k ∧ k ≤ 9223372036854775807) (w : World) :
    Calls Try.prog 5 #[cv c, .agg #[.int .i64 a, .int .i64 b, .int .i64 k]] w fun e w' => e = .returned (.bool true) ∧ Below w.heap.size w w' := by
  rcases h : isB c a with _ | _
  · exact law5_no c a b k h w
  · exact law5_yes c a b k h w

end Go.Proofs.Ytnbogjiddildaaa
