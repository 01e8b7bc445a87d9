/- Contracts of turn.Choose and its reference; turn.Allowed and its reference; the example of layer 6's laws; the walk of the law TurnOptions. -/
import Derived.Test.YtnbogjiddildaaaT1
import Derived.Test.YtnbogjiddildaaaL0
namespace Go.Proofs.Ytnbogjiddildaaa
open Go.RowKit
set_option linter.unusedSimpArgs false
set_option linter.unusedVariables false

theorem cho0 {c : Cfg} {a b ch : Int} (h : optP c a b = []) : chooseP c a b ch = (0, false) := by unfold chooseP; rw [h]
theorem cho1 {c : Cfg} {a b ch x : Int} (h : optP c a b = [x]) : chooseP c a b ch = (x, true) := by unfold chooseP; rw [h]
theorem cho2 {c : Cfg} {a b ch x y : Int} (h : optP c a b = [x, y]) : chooseP c a b ch = (if rnd ch % 2 = 0 then x else y, true) := by unfold chooseP; rw [h]

set_option maxHeartbeats 1000000 in
set_option maxRecDepth 20000 in
theorem f58_0 (c : Cfg) (a b ch : Int) (c0 : -9223372036854775808 ≤ ch) (c1 : ch ≤ 9223372036854775807) (h : optP c a b = []) (w : World) :
    Calls Try.prog 58 #[cv c, .int .i64 a, .int .i64 b, .int .i64 ch] w fun e w' => e = .returned (.tuple #[.int .i64 (chooseP c a b ch).1, .bool (chooseP c a b ch).2]) ∧ Below w.heap.size w w' := by
  have HO := Hd.mk h
  have HC := Hd.mk (cho0 (ch := ch) h)
  clear h
  go_enter Try.func58, Try.ntmps58
  go_wp2_with fail
  refine (f60_any c a b _).mono ?_
  rintro e w1 ⟨v, rfl, hr, hb1⟩
  have S1 := keepS hb1 (s0 c w)
  rw [HO.out] at hr
  obtain ⟨A, cap, rfl, hcap, hrd⟩ := hr.rd
  clear hr hb1
  clear hrd
  go_wp2
  go_ret2
  exact ⟨ret2_ib HC.out, sB S1⟩

set_option maxHeartbeats 1000000 in
set_option maxRecDepth 20000 in
theorem f58_1n (c : Cfg) (a b ch : Int) (c0 : -9223372036854775808 ≤ ch) (c1 : ch ≤ 9223372036854775807) (x : Int) (h : optP c a b = [x]) (hs : ch < 0) (w : World) :
    Calls Try.prog 58 #[cv c, .int .i64 a, .int .i64 b, .int .i64 ch] w fun e w' => e = .returned (.tuple #[.int .i64 (chooseP c a b ch).1, .bool (chooseP c a b ch).2]) ∧ Below w.heap.size w w' := by
  have HO := Hd.mk h
  have HC := Hd.mk (cho1 (ch := ch) h)
  clear h
  go_enter Try.func58, Try.ntmps58
  go_wp2_with fail
  refine (f60_any c a b _).mono ?_
  rintro e w1 ⟨v, rfl, hr, hb1⟩
  have S1 := keepS hb1 (s0 c w)
  rw [HO.out] at hr
  obtain ⟨A, cap, rfl, hcap, hrd⟩ := hr.rd
  clear hr hb1
  obtain ⟨g, off, rfl, hg, hc⟩ := hrd (by simp)
  have hx := hc 0 x rfl
  clear hc hrd
  simp only [Nat.add_zero] at hx
  go_wp2
  go_ret2
  exact ⟨ret2_ib HC.out, sB S1⟩

set_option maxHeartbeats 1000000 in
set_option maxRecDepth 20000 in
theorem f58_1p (c : Cfg) (a b ch : Int) (c0 : -9223372036854775808 ≤ ch) (c1 : ch ≤ 9223372036854775807) (x : Int) (h : optP c a b = [x]) (hs : 0 ≤ ch) (w : World) :
    Calls Try.prog 58 #[cv c, .int .i64 a, .int .i64 b, .int .i64 ch] w fun e w' => e = .returned (.tuple #[.int .i64 (chooseP c a b ch).1, .bool (chooseP c a b ch).2]) ∧ Below w.heap.size w w' := by
  have HO := Hd.mk h
  have HC := Hd.mk (cho1 (ch := ch) h)
  clear h
  go_enter Try.func58, Try.ntmps58
  go_wp2_with fail
  refine (f60_any c a b _).mono ?_
  rintro e w1 ⟨v, rfl, hr, hb1⟩
  have S1 := keepS hb1 (s0 c w)
  rw [HO.out] at hr
  obtain ⟨A, cap, rfl, hcap, hrd⟩ := hr.rd
  clear hr hb1
  obtain ⟨g, off, rfl, hg, hc⟩ := hrd (by simp)
  have hx := hc 0 x rfl
  clear hc hrd
  simp only [Nat.add_zero] at hx
  go_wp2
  go_ret2
  exact ⟨ret2_ib HC.out, sB S1⟩

set_option maxHeartbeats 1000000 in
set_option maxRecDepth 20000 in
theorem f58_2n0 (c : Cfg) (a b ch : Int) (c0 : -9223372036854775808 ≤ ch) (c1 : ch ≤ 9223372036854775807) (x y : Int) (h : optP c a b = [x, y]) (hs : ch < 0) (hm : (ch + 1).tmod 2 = 0) (w : World) :
    Calls Try.prog 58 #[cv c, .int .i64 a, .int .i64 b, .int .i64 ch] w fun e w' => e = .returned (.tuple #[.int .i64 (chooseP c a b ch).1, .bool (chooseP c a b ch).2]) ∧ Below w.heap.size w w' := by
  have HO := Hd.mk h
  have HC : Hd (chooseP c a b ch = (x, true)) := ⟨by rw [cho2 h]; congr 1; exact by unfold rnd; rw [if_pos hs, if_pos (by have h1 := Int.tmod_eq_emod_of_nonneg (a := -(ch + 1)) (b := 2) (by omega); rw [Int.neg_tmod, hm] at h1; omega)]⟩
  clear h
  go_enter Try.func58, Try.ntmps58
  go_wp2_with fail
  refine (f60_any c a b _).mono ?_
  rintro e w1 ⟨v, rfl, hr, hb1⟩
  have S1 := keepS hb1 (s0 c w)
  rw [HO.out] at hr
  obtain ⟨A, cap, rfl, hcap, hrd⟩ := hr.rd
  clear hr hb1
  obtain ⟨g, off, rfl, hg, hc⟩ := hrd (by simp)
  have hx := hc 0 x rfl
  have hy := hc 1 y rfl
  clear hc hrd
  simp only [Nat.add_zero] at hx
  go_wp2
  go_ret2
  exact ⟨ret2_ib HC.out, sB S1⟩

set_option maxHeartbeats 1000000 in
set_option maxRecDepth 20000 in
theorem f58_2n1 (c : Cfg) (a b ch : Int) (c0 : -9223372036854775808 ≤ ch) (c1 : ch ≤ 9223372036854775807) (x y : Int) (h : optP c a b = [x, y]) (hs : ch < 0) (hm : (ch + 1).tmod 2 = -1) (w : World) :
    Calls Try.prog 58 #[cv c, .int .i64 a, .int .i64 b, .int .i64 ch] w fun e w' => e = .returned (.tuple #[.int .i64 (chooseP c a b ch).1, .bool (chooseP c a b ch).2]) ∧ Below w.heap.size w w' := by
  have HO := Hd.mk h
  have HC : Hd (chooseP c a b ch = (y, true)) := ⟨by rw [cho2 h]; congr 1; exact by unfold rnd; rw [if_pos hs, if_neg (by have h1 := Int.tmod_eq_emod_of_nonneg (a := -(ch + 1)) (b := 2) (by omega); rw [Int.neg_tmod, hm] at h1; omega)]⟩
  clear h
  go_enter Try.func58, Try.ntmps58
  go_wp2_with fail
  refine (f60_any c a b _).mono ?_
  rintro e w1 ⟨v, rfl, hr, hb1⟩
  have S1 := keepS hb1 (s0 c w)
  rw [HO.out] at hr
  obtain ⟨A, cap, rfl, hcap, hrd⟩ := hr.rd
  clear hr hb1
  obtain ⟨g, off, rfl, hg, hc⟩ := hrd (by simp)
  have hx := hc 0 x rfl
  have hy := hc 1 y rfl
  clear hc hrd
  simp only [Nat.add_zero] at hx
  go_wp2
  go_ret2
  exact ⟨ret2_ib HC.out, sB S1⟩

set_option maxHeartbeats 1000000 in
set_option maxRecDepth 20000 in
theorem f58_2p0 (c : Cfg) (a b ch : Int) (c0 : -9223372036854775808 ≤ ch) (c1 : ch ≤ 9223372036854775807) (x y : Int) (h : optP c a b = [x, y]) (hs : 0 ≤ ch) (hm : ch % 2 = 0) (w : World) :
    Calls Try.prog 58 #[cv c, .int .i64 a, .int .i64 b, .int .i64 ch] w fun e w' => e = .returned (.tuple #[.int .i64 (chooseP c a b ch).1, .bool (chooseP c a b ch).2]) ∧ Below w.heap.size w w' := by
  have HO := Hd.mk h
  have HC : Hd (chooseP c a b ch = (x, true)) := ⟨by rw [cho2 h]; congr 1; exact by rw [show rnd ch = ch from (if_neg (by omega)), if_pos hm]⟩
  clear h
  go_enter Try.func58, Try.ntmps58
  go_wp2_with fail
  refine (f60_any c a b _).mono ?_
  rintro e w1 ⟨v, rfl, hr, hb1⟩
  have S1 := keepS hb1 (s0 c w)
  rw [HO.out] at hr
  obtain ⟨A, cap, rfl, hcap, hrd⟩ := hr.rd
  clear hr hb1
  obtain ⟨g, off, rfl, hg, hc⟩ := hrd (by simp)
  have hx := hc 0 x rfl
  have hy := hc 1 y rfl
  clear hc hrd
  simp only [Nat.add_zero] at hx
  go_wp2
  go_ret2
  exact ⟨ret2_ib HC.out, sB S1⟩

set_option maxHeartbeats 1000000 in
set_option maxRecDepth 20000 in
theorem f58_2p1 (c : Cfg) (a b ch : Int) (c0 : -9223372036854775808 ≤ ch) (c1 : ch ≤ 9223372036854775807) (x y : Int) (h : optP c a b = [x, y]) (hs : 0 ≤ ch) (hm : ch % 2 = 1) (w : World) :
    Calls Try.prog 58 #[cv c, .int .i64 a, .int .i64 b, .int .i64 ch] w fun e w' => e = .returned (.tuple #[.int .i64 (chooseP c a b ch).1, .bool (chooseP c a b ch).2]) ∧ Below w.heap.size w w' := by
  have HO := Hd.mk h
  have HC : Hd (chooseP c a b ch = (y, true)) := ⟨by rw [cho2 h]; congr 1; exact by rw [show rnd ch = ch from (if_neg (by omega)), if_neg (by omega)]⟩
  clear h
  go_enter Try.func58, Try.ntmps58
  go_wp2_with fail
  refine (f60_any c a b _).mono ?_
  rintro e w1 ⟨v, rfl, hr, hb1⟩
  have S1 := keepS hb1 (s0 c w)
  rw [HO.out] at hr
  obtain ⟨A, cap, rfl, hcap, hrd⟩ := hr.rd
  clear hr hb1
  obtain ⟨g, off, rfl, hg, hc⟩ := hrd (by simp)
  have hx := hc 0 x rfl
  have hy := hc 1 y rfl
  clear hc hrd
  simp only [Nat.add_zero] at hx
  go_wp2
  go_ret2
  exact ⟨ret2_ib HC.out, sB S1⟩

theorem f58_any (c : Cfg) (a b ch : Int) (c0 : -9223372036854775808 ≤ ch) (c1 : ch ≤ 9223372036854775807) (w : World) :
    Calls Try.prog 58 #[cv c, .int .i64 a, .int .i64 b, .int .i64 ch] w fun e w' => e = .returned (.tuple #[.int .i64 (chooseP c a b ch).1, .bool (chooseP c a b ch).2]) ∧ Below w.heap.size w w' := by
  rcases opt_cases c a b with h | ⟨x, h⟩ | ⟨x, y, h⟩
  · exact f58_0 c a b ch c0 c1 h w
  · by_cases hs : ch < 0
    · exact f58_1n c a b ch c0 c1 x h hs w
    · exact f58_1p c a b ch c0 c1 x h (by omega) w
  · by_cases hs : ch < 0
    · have h1 := Int.tmod_eq_emod_of_nonneg (a := -(ch + 1)) (b := 2) (by omega)
      rw [Int.neg_tmod] at h1
      rcases (by omega : (ch + 1).tmod 2 = 0 ∨ (ch + 1).tmod 2 = -1) with hm | hm
      · exact f58_2n0 c a b ch c0 c1 x y h hs hm w
      · exact f58_2n1 c a b ch c0 c1 x y h hs hm w
    · rcases (by omega : ch % 2 = 0 ∨ ch % 2 = 1) with hm | hm
      · exact f58_2p0 c a b ch c0 c1 x y h (by omega) hm w
      · exact f58_2p1 c a b ch c0 c1 x y h (by omega) hm w
theorem f58_is (c : Cfg) (a b ch : Int) (c0 : -9223372036854775808 ≤ ch) (c1 : ch ≤ 9223372036854775807) (p : Int) (is : Bool) (h : chooseP c a b ch = (p, is)) (w : World) :
    Calls Try.prog 58 #[cv c, .int .i64 a, .int .i64 b, .int .i64 ch] w fun e w' => e = .returned (.tuple #[.int .i64 p, .bool is]) ∧ Below w.heap.size w w' := by
  have := f58_any c a b ch c0 c1 w
  rw [h] at this
  exact this

set_option maxHeartbeats 1000000 in
set_option maxRecDepth 20000 in
theorem f59_0 (c : Cfg) (a b ch : Int) (c0 : -9223372036854775808 ≤ ch) (c1 : ch ≤ 9223372036854775807) (h : optP c a b = []) (w : World) :
    Calls Try.prog 59 #[cv c, .int .i64 a, .int .i64 b, .int .i64 ch] w fun e w' => e = .returned (.tuple #[.int .i64 (chooseP c a b ch).1, .bool (chooseP c a b ch).2]) ∧ Below w.heap.size w w' := by
  have HO := Hd.mk h
  have HC := Hd.mk (cho0 (ch := ch) h)
  clear h
  go_enter Try.func59, Try.ntmps59
  go_wp2_with fail
  refine (f61_any c a b _).mono ?_
  rintro e w1 ⟨v, rfl, hr, hb1⟩
  have S1 := keepS hb1 (s0 c w)
  rw [HO.out] at hr
  obtain ⟨A, cap, rfl, hcap, hrd⟩ := hr.rd
  clear hr hb1
  clear hrd
  go_wp2
  go_ret2
  exact ⟨ret2_ib HC.out, sB S1⟩

set_option maxHeartbeats 1000000 in
set_option maxRecDepth 20000 in
theorem f59_1n (c : Cfg) (a b ch : Int) (c0 : -9223372036854775808 ≤ ch) (c1 : ch ≤ 9223372036854775807) (x : Int) (h : optP c a b = [x]) (hs : ch < 0) (w : World) :
    Calls Try.prog 59 #[cv c, .int .i64 a, .int .i64 b, .int .i64 ch] w fun e w' => e = .returned (.tuple #[.int .i64 (chooseP c a b ch).1, .bool (chooseP c a b ch).2]) ∧ Below w.heap.size w w' := by
  have HO := Hd.mk h
  have HC := Hd.mk (cho1 (ch := ch) h)
  clear h
  go_enter Try.func59, Try.ntmps59
  go_wp2_with fail
  refine (f61_any c a b _).mono ?_
  rintro e w1 ⟨v, rfl, hr, hb1⟩
  have S1 := keepS hb1 (s0 c w)
  rw [HO.out] at hr
  obtain ⟨A, cap, rfl, hcap, hrd⟩ := hr.rd
  clear hr hb1
  obtain ⟨g, off, rfl, hg, hc⟩ := hrd (by simp)
  have hx := hc 0 x rfl
  clear hc hrd
  simp only [Nat.add_zero] at hx
  go_wp2
  go_ret2
  exact ⟨ret2_ib HC.out, sB S1⟩

set_option maxHeartbeats 1000000 in
set_option maxRecDepth 20000 in
theorem f59_1p (c : Cfg) (a b ch : Int) (c0 : -9223372036854775808 ≤ ch) (c1 : ch ≤ 9223372036854775807) (x : Int) (h : optP c a b = [x]) (hs : 0 ≤ ch) (w : World) :
    Calls Try.prog 59 #[cv c, .int .i64 a, .int .i64 b, .int .i64 ch] w fun e w' => e = .returned (.tuple #[.int .i64 (chooseP c a b ch).1, .bool (chooseP c a b ch).2]) ∧ Below w.heap.size w w' := by
  have HO := Hd.mk h
  have HC := Hd.mk (cho1 (ch := ch) h)
  clear h
  go_enter Try.func59, Try.ntmps59
  go_wp2_with fail
  refine (f61_any c a b _).mono ?_
  rintro e w1 ⟨v, rfl, hr, hb1⟩
  have S1 := keepS hb1 (s0 c w)
  rw [HO.out] at hr
  obtain ⟨A, cap, rfl, hcap, hrd⟩ := hr.rd
  clear hr hb1
  obtain ⟨g, off, rfl, hg, hc⟩ := hrd (by simp)
  have hx := hc 0 x rfl
  clear hc hrd
  simp only [Nat.add_zero] at hx
  go_wp2
  go_ret2
  exact ⟨ret2_ib HC.out, sB S1⟩

set_option maxHeartbeats 1000000 in
set_option maxRecDepth 20000 in
theorem f59_2n0 (c : Cfg) (a b ch : Int) (c0 : -9223372036854775808 ≤ ch) (c1 : ch ≤ 9223372036854775807) (x y : Int) (h : optP c a b = [x, y]) (hs : ch < 0) (hm : (ch + 1).tmod 2 = 0) (w : World) :
    Calls Try.prog 59 #[cv c, .int .i64 a, .int .i64 b, .int .i64 ch] w fun e w' => e = .returned (.tuple #[.int .i64 (chooseP c a b ch).1, .bool (chooseP c a b ch).2]) ∧ Below w.heap.size w w' := by
  have HO := Hd.mk h
  have HC : Hd (chooseP c a b ch = (x, true)) := ⟨by rw [cho2 h]; congr 1; exact by unfold rnd; rw [if_pos hs, if_pos (by have h1 := Int.tmod_eq_emod_of_nonneg (a := -(ch + 1)) (b := 2) (by omega); rw [Int.neg_tmod, hm] at h1; omega)]⟩
  clear h
  go_enter Try.func59, Try.ntmps59
  go_wp2_with fail
  refine (f61_any c a b _).mono ?_
  rintro e w1 ⟨v, rfl, hr, hb1⟩
  have S1 := keepS hb1 (s0 c w)
  rw [HO.out] at hr
  obtain ⟨A, cap, rfl, hcap, hrd⟩ := hr.rd
  clear hr hb1
  obtain ⟨g, off, rfl, hg, hc⟩ := hrd (by simp)
  have hx := hc 0 x rfl
  have hy := hc 1 y rfl
  clear hc hrd
  simp only [Nat.add_zero] at hx
  go_wp2
  go_ret2
  exact ⟨ret2_ib HC.out, sB S1⟩

set_option maxHeartbeats 1000000 in
set_option maxRecDepth 20000 in
theorem f59_2n1 (c : Cfg) (a b ch : Int) (c0 : -9223372036854775808 ≤ ch) (c1 : ch ≤ 9223372036854775807) (x y : Int) (h : optP c a b = [x, y]) (hs : ch < 0) (hm : (ch + 1).tmod 2 = -1) (w : World) :
    Calls Try.prog 59 #[cv c, .int .i64 a, .int .i64 b, .int .i64 ch] w fun e w' => e = .returned (.tuple #[.int .i64 (chooseP c a b ch).1, .bool (chooseP c a b ch).2]) ∧ Below w.heap.size w w' := by
  have HO := Hd.mk h
  have HC : Hd (chooseP c a b ch = (y, true)) := ⟨by rw [cho2 h]; congr 1; exact by unfold rnd; rw [if_pos hs, if_neg (by have h1 := Int.tmod_eq_emod_of_nonneg (a := -(ch + 1)) (b := 2) (by omega); rw [Int.neg_tmod, hm] at h1; omega)]⟩
  clear h
  go_enter Try.func59, Try.ntmps59
  go_wp2_with fail
  refine (f61_any c a b _).mono ?_
  rintro e w1 ⟨v, rfl, hr, hb1⟩
  have S1 := keepS hb1 (s0 c w)
  rw [HO.out] at hr
  obtain ⟨A, cap, rfl, hcap, hrd⟩ := hr.rd
  clear hr hb1
  obtain ⟨g, off, rfl, hg, hc⟩ := hrd (by simp)
  have hx := hc 0 x rfl
  have hy := hc 1 y rfl
  clear hc hrd
  simp only [Nat.add_zero] at hx
  go_wp2
  go_ret2
  exact ⟨ret2_ib HC.out, sB S1⟩

set_option maxHeartbeats 1000000 in
set_option maxRecDepth 20000 in
theorem f59_2p0 (c : Cfg) (a b ch : Int) (c0 : -9223372036854775808 ≤ ch) (c1 : ch ≤ 9223372036854775807) (x y : Int) (h : optP c a b = [x, y]) (hs : 0 ≤ ch) (hm : ch % 2 = 0) (w : World) :
    Calls Try.prog 59 #[cv c, .int .i64 a, .int .i64 b, .int .i64 ch] w fun e w' => e = .returned (.tuple #[.int .i64 (chooseP c a b ch).1, .bool (chooseP c a b ch).2]) ∧ Below w.heap.size w w' := by
  have HO := Hd.mk h
  have HC : Hd (chooseP c a b ch = (x, true)) := ⟨by rw [cho2 h]; congr 1; exact by rw [show rnd ch = ch from (if_neg (by omega)), if_pos hm]⟩
  clear h
  go_enter Try.func59, Try.ntmps59
  go_wp2_with fail
  refine (f61_any c a b _).mono ?_
  rintro e w1 ⟨v, rfl, hr, hb1⟩
  have S1 := keepS hb1 (s0 c w)
  rw [HO.out] at hr
  obtain ⟨A, cap, rfl, hcap, hrd⟩ := hr.rd
  clear hr hb1
  obtain ⟨g, off, rfl, hg, hc⟩ := hrd (by simp)
  have hx := hc 0 x rfl
  have hy := hc 1 y rfl
  clear hc hrd
  simp only [Nat.add_zero] at hx
  go_wp2
  go_ret2
  exact ⟨ret2_ib HC.out, sB S1⟩

set_option maxHeartbeats 1000000 in
set_option maxRecDepth 20000 in
theorem f59_2p1 (c : Cfg) (a b ch : Int) (c0 : -9223372036854775808 ≤ ch) (c1 : ch ≤ 9223372036854775807) (x y : Int) (h : optP c a b = [x, y]) (hs : 0 ≤ ch) (hm : ch % 2 = 1) (w : World) :
    Calls Try.prog 59 #[cv c, .int .i64 a, .int .i64 b, .int .i64 ch] w fun e w' => e = .returned (.tuple #[.int .i64 (chooseP c a b ch).1, .bool (chooseP c a b ch).2]) ∧ Below w.heap.size w w' := by
  have HO := Hd.mk h
  have HC : Hd (chooseP c a b ch = (y, true)) := ⟨by rw [cho2 h]; congr 1; exact by rw [show rnd ch = ch from (if_neg (by omega)), if_neg (by omega)]⟩
  clear h
  go_enter Try.func59, Try.ntmps59
  go_wp2_with fail
  refine (f61_any c a b _).mono ?_
  rintro e w1 ⟨v, rfl, hr, hb1⟩
  have S1 := keepS hb1 (s0 c w)
  rw [HO.out] at hr
  obtain ⟨A, cap, rfl, hcap, hrd⟩ := hr.rd
  clear hr hb1
  obtain ⟨g, off, rfl, hg, hc⟩ := hrd (by simp)
  have hx := hc 0 x rfl
  have hy := hc 1 y rfl
  clear hc hrd
  simp only [Nat.add_zero] at hx
  go_wp2
  go_ret2
  exact ⟨ret2_ib HC.out, sB S1⟩

theorem f59_any (c : Cfg) (a b ch : Int) (c0 : -9223372036854775808 ≤ ch) (c1 : ch ≤ 9223372036854775807) (w : World) :
    Calls Try.prog 59 #[cv c, .int .i64 a, .int .i64 b, .int .i64 ch] w fun e w' => e = .returned (.tuple #[.int .i64 (chooseP c a b ch).1, .bool (chooseP c a b ch).2]) ∧ Below w.heap.size w w' := by
  rcases opt_cases c a b with h | ⟨x, h⟩ | ⟨x, y, h⟩
  · exact f59_0 c a b ch c0 c1 h w
  · by_cases hs : ch < 0
    · exact f59_1n c a b ch c0 c1 x h hs w
    · exact f59_1p c a b ch c0 c1 x h (by omega) w
  · by_cases hs : ch < 0
    · have h1 := Int.tmod_eq_emod_of_nonneg (a := -(ch + 1)) (b := 2) (by omega)
      rw [Int.neg_tmod] at h1
      rcases (by omega : (ch + 1).tmod 2 = 0 ∨ (ch + 1).tmod 2 = -1) with hm | hm
      · exact f59_2n0 c a b ch c0 c1 x y h hs hm w
      · exact f59_2n1 c a b ch c0 c1 x y h hs hm w
    · rcases (by omega : ch % 2 = 0 ∨ ch % 2 = 1) with hm | hm
      · exact f59_2p0 c a b ch c0 c1 x y h (by omega) hm w
      · exact f59_2p1 c a b ch c0 c1 x y h (by omega) hm w
theorem f59_is (c : Cfg) (a b ch : Int) (c0 : -9223372036854775808 ≤ ch) (c1 : ch ≤ 9223372036854775807) (p : Int) (is : Bool) (h : chooseP c a b ch = (p, is)) (w : World) :
    Calls Try.prog 59 #[cv c, .int .i64 a, .int .i64 b, .int .i64 ch] w fun e w' => e = .returned (.tuple #[.int .i64 p, .bool is]) ∧ Below w.heap.size w w' := by
  have := f59_any c a b ch c0 c1 w
  rw [h] at this
  exact this

def portB (n : Int) : Bool := decide (0 ≤ n) && decide (n ≤ 4)
def allowP (f t : Int) : Bool :=
  if portB f = true ∧ portB t = true then
    if f = 0 ∨ t = 0 ∨ f = t then true else decide (t ≠ 2) && decide (t ≠ backP f)
  else false
theorem allow_ref {f t : Int} (hf : portB f = true) (ht : portB t = true) : allowP f t = if f = 0 ∨ t = 0 then true else if t = 2 then decide (f = 2) else decide (f ≠ backP t) := by
  unfold portB at hf ht
  simp at hf ht
  have h1 : f = 0 ∨ f = 1 ∨ f = 2 ∨ f = 3 ∨ f = 4 := by omega
  have h2 : t = 0 ∨ t = 1 ∨ t = 2 ∨ t = 3 ∨ t = 4 := by omega
  rcases h1 with rfl | rfl | rfl | rfl | rfl <;> rcases h2 with rfl | rfl | rfl | rfl | rfl <;> decide

set_option maxHeartbeats 1000000 in
set_option maxRecDepth 20000 in
theorem f88_any (n : Int) (w : World) :
    Calls Try.prog 88 #[.int .i64 n] w fun e w' => e = .returned (.bool (portB n)) ∧ w = w' := by
  unfold portB
  by_cases h0 : 0 ≤ n
  · by_cases h1 : n < 5
    all_goals
      have H0 := Hd.mk h0
      have H1 := Hd.mk h1
      go_enter Try.func88, Try.ntmps88
      go_wp2
      go_ret
      exact ⟨ret_bool (by have := H0.out; have := H1.out; simp; omega), rfl⟩
  · have H0 := Hd.mk h0
    go_enter Try.func88, Try.ntmps88
    go_wp2
    go_ret
    exact ⟨ret_bool (by have := H0.out; simp; omega), rfl⟩

theorem f88_is (n : Int) (b : Bool) (h : portB n = b) (w : World) : Calls Try.prog 88 #[.int .i64 n] w fun e w' => e = .returned (.bool b) ∧ w = w' := by
  subst h; exact f88_any n w

set_option maxHeartbeats 1000000 in
set_option maxRecDepth 20000 in
theorem f64_nf (f t : Int) (h : portB f = false) (w : World) :
    Calls Try.prog 64 #[.int .i64 f, .int .i64 t] w fun e w' => e = .returned (.bool (allowP f t)) ∧ Below w.heap.size w w' := by
  have HF := Hd.mk h
  have HA : Hd (allowP f t = false) := ⟨by unfold allowP; rw [if_neg (by rw [h]; simp)]⟩
  clear h
  go_enter Try.func64, Try.ntmps64
  go_wp2_with fail
  refine (f88_is f false HF.out _).mono ?_
  rintro e w1 ⟨rfl, rfl⟩
  go_wp2
  go_ret
  exact ⟨ret_bool HA.out.symm, Below.refl _ _⟩

set_option maxHeartbeats 1000000 in
set_option maxRecDepth 20000 in
theorem f64_nt (f t : Int) (hf : portB f = true) (h : portB t = false) (w : World) :
    Calls Try.prog 64 #[.int .i64 f, .int .i64 t] w fun e w' => e = .returned (.bool (allowP f t)) ∧ Below w.heap.size w w' := by
  have HF := Hd.mk hf
  have HT := Hd.mk h
  have HA : Hd (allowP f t = false) := ⟨by unfold allowP; rw [if_neg (by rw [h]; simp)]⟩
  clear hf h
  go_enter Try.func64, Try.ntmps64
  go_wp2_with fail
  refine (f88_is f true HF.out _).mono ?_
  rintro e w1 ⟨rfl, rfl⟩
  go_wp2_with fail
  refine (f88_is t false HT.out _).mono ?_
  rintro e w1 ⟨rfl, rfl⟩
  go_wp2
  go_ret
  exact ⟨ret_bool HA.out.symm, Below.refl _ _⟩

set_option maxHeartbeats 1000000 in
set_option maxRecDepth 20000 in
theorem f64_00  (w : World) :
    Calls Try.prog 64 #[.int .i64 0, .int .i64 0] w fun e w' => e = .returned (.bool (allowP 0 0)) ∧ Below w.heap.size w w' := by
  have HF : Hd (portB 0 = true) := ⟨by decide⟩
  have HT : Hd (portB 0 = true) := ⟨by decide⟩
  go_enter Try.func64, Try.ntmps64
  go_wp2_with fail
  refine (f88_is 0 true HF.out _).mono ?_
  rintro e w1 ⟨rfl, rfl⟩
  go_wp2_with fail
  refine (f88_is 0 true HT.out _).mono ?_
  rintro e w1 ⟨rfl, rfl⟩
  go_wp2
  go_ret
  exact ⟨rfl, Below.refl _ _⟩

set_option maxHeartbeats 1000000 in
set_option maxRecDepth 20000 in
theorem f64_01  (w : World) :
    Calls Try.prog 64 #[.int .i64 0, .int .i64 1] w fun e w' => e = .returned (.bool (allowP 0 1)) ∧ Below w.heap.size w w' := by
  have HF : Hd (portB 0 = true) := ⟨by decide⟩
  have HT : Hd (portB 1 = true) := ⟨by decide⟩
  go_enter Try.func64, Try.ntmps64
  go_wp2_with fail
  refine (f88_is 0 true HF.out _).mono ?_
  rintro e w1 ⟨rfl, rfl⟩
  go_wp2_with fail
  refine (f88_is 1 true HT.out _).mono ?_
  rintro e w1 ⟨rfl, rfl⟩
  go_wp2
  go_ret
  exact ⟨rfl, Below.refl _ _⟩

set_option maxHeartbeats 1000000 in
set_option maxRecDepth 20000 in
theorem f64_02  (w : World) :
    Calls Try.prog 64 #[.int .i64 0, .int .i64 2] w fun e w' => e = .returned (.bool (allowP 0 2)) ∧ Below w.heap.size w w' := by
  have HF : Hd (portB 0 = true) := ⟨by decide⟩
  have HT : Hd (portB 2 = true) := ⟨by decide⟩
  go_enter Try.func64, Try.ntmps64
  go_wp2_with fail
  refine (f88_is 0 true HF.out _).mono ?_
  rintro e w1 ⟨rfl, rfl⟩
  go_wp2_with fail
  refine (f88_is 2 true HT.out _).mono ?_
  rintro e w1 ⟨rfl, rfl⟩
  go_wp2
  go_ret
  exact ⟨rfl, Below.refl _ _⟩

set_option maxHeartbeats 1000000 in
set_option maxRecDepth 20000 in
theorem f64_03  (w : World) :
    Calls Try.prog 64 #[.int .i64 0, .int .i64 3] w fun e w' => e = .returned (.bool (allowP 0 3)) ∧ Below w.heap.size w w' := by
  have HF : Hd (portB 0 = true) := ⟨by decide⟩
  have HT : Hd (portB 3 = true) := ⟨by decide⟩
  go_enter Try.func64, Try.ntmps64
  go_wp2_with fail
  refine (f88_is 0 true HF.out _).mono ?_
  rintro e w1 ⟨rfl, rfl⟩
  go_wp2_with fail
  refine (f88_is 3 true HT.out _).mono ?_
  rintro e w1 ⟨rfl, rfl⟩
  go_wp2
  go_ret
  exact ⟨rfl, Below.refl _ _⟩

set_option maxHeartbeats 1000000 in
set_option maxRecDepth 20000 in
theorem f64_04  (w : World) :
    Calls Try.prog 64 #[.int .i64 0, .int .i64 4] w fun e w' => e = .returned (.bool (allowP 0 4)) ∧ Below w.heap.size w w' := by
  have HF : Hd (portB 0 = true) := ⟨by decide⟩
  have HT : Hd (portB 4 = true) := ⟨by decide⟩
  go_enter Try.func64, Try.ntmps64
  go_wp2_with fail
  refine (f88_is 0 true HF.out _).mono ?_
  rintro e w1 ⟨rfl, rfl⟩
  go_wp2_with fail
  refine (f88_is 4 true HT.out _).mono ?_
  rintro e w1 ⟨rfl, rfl⟩
  go_wp2
  go_ret
  exact ⟨rfl, Below.refl _ _⟩

set_option maxHeartbeats 1000000 in
set_option maxRecDepth 20000 in
theorem f64_10  (w : World) :
    Calls Try.prog 64 #[.int .i64 1, .int .i64 0] w fun e w' => e = .returned (.bool (allowP 1 0)) ∧ Below w.heap.size w w' := by
  have HF : Hd (portB 1 = true) := ⟨by decide⟩
  have HT : Hd (portB 0 = true) := ⟨by decide⟩
  go_enter Try.func64, Try.ntmps64
  go_wp2_with fail
  refine (f88_is 1 true HF.out _).mono ?_
  rintro e w1 ⟨rfl, rfl⟩
  go_wp2_with fail
  refine (f88_is 0 true HT.out _).mono ?_
  rintro e w1 ⟨rfl, rfl⟩
  go_wp2
  go_ret
  exact ⟨rfl, Below.refl _ _⟩

set_option maxHeartbeats 1000000 in
set_option maxRecDepth 20000 in
theorem f64_11  (w : World) :
    Calls Try.prog 64 #[.int .i64 1, .int .i64 1] w fun e w' => e = .returned (.bool (allowP 1 1)) ∧ Below w.heap.size w w' := by
  have HF : Hd (portB 1 = true) := ⟨by decide⟩
  have HT : Hd (portB 1 = true) := ⟨by decide⟩
  go_enter Try.func64, Try.ntmps64
  go_wp2_with fail
  refine (f88_is 1 true HF.out _).mono ?_
  rintro e w1 ⟨rfl, rfl⟩
  go_wp2_with fail
  refine (f88_is 1 true HT.out _).mono ?_
  rintro e w1 ⟨rfl, rfl⟩
  go_wp2
  go_ret
  exact ⟨rfl, Below.refl _ _⟩

set_option maxHeartbeats 1000000 in
set_option maxRecDepth 20000 in
theorem f64_12  (w : World) :
    Calls Try.prog 64 #[.int .i64 1, .int .i64 2] w fun e w' => e = .returned (.bool (allowP 1 2)) ∧ Below w.heap.size w w' := by
  have HF : Hd (portB 1 = true) := ⟨by decide⟩
  have HT : Hd (portB 2 = true) := ⟨by decide⟩
  go_enter Try.func64, Try.ntmps64
  go_wp2_with fail
  refine (f88_is 1 true HF.out _).mono ?_
  rintro e w1 ⟨rfl, rfl⟩
  go_wp2_with fail
  refine (f88_is 2 true HT.out _).mono ?_
  rintro e w1 ⟨rfl, rfl⟩
  go_wp2
  go_ret
  exact ⟨rfl, Below.refl _ _⟩

set_option maxHeartbeats 1000000 in
set_option maxRecDepth 20000 in
theorem f64_13  (w : World) :
    Calls Try.prog 64 #[.int .i64 1, .int .i64 3] w fun e w' => e = .returned (.bool (allowP 1 3)) ∧ Below w.heap.size w w' := by
  have HF : Hd (portB 1 = true) := ⟨by decide⟩
  have HT : Hd (portB 3 = true) := ⟨by decide⟩
  go_enter Try.func64, Try.ntmps64
  go_wp2_with fail
  refine (f88_is 1 true HF.out _).mono ?_
  rintro e w1 ⟨rfl, rfl⟩
  go_wp2_with fail
  refine (f88_is 3 true HT.out _).mono ?_
  rintro e w1 ⟨rfl, rfl⟩
  go_wp2_with fail
  refine (f43_any 1 _).mono ?_
  rintro e w1 ⟨rfl, hb1⟩
  simp only [show backP 1 = 2 from rfl]
  go_wp2
  go_ret
  exact ⟨rfl, hb1⟩

set_option maxHeartbeats 1000000 in
set_option maxRecDepth 20000 in
theorem f64_14  (w : World) :
    Calls Try.prog 64 #[.int .i64 1, .int .i64 4] w fun e w' => e = .returned (.bool (allowP 1 4)) ∧ Below w.heap.size w w' := by
  have HF : Hd (portB 1 = true) := ⟨by decide⟩
  have HT : Hd (portB 4 = true) := ⟨by decide⟩
  go_enter Try.func64, Try.ntmps64
  go_wp2_with fail
  refine (f88_is 1 true HF.out _).mono ?_
  rintro e w1 ⟨rfl, rfl⟩
  go_wp2_with fail
  refine (f88_is 4 true HT.out _).mono ?_
  rintro e w1 ⟨rfl, rfl⟩
  go_wp2_with fail
  refine (f43_any 1 _).mono ?_
  rintro e w1 ⟨rfl, hb1⟩
  simp only [show backP 1 = 2 from rfl]
  go_wp2
  go_ret
  exact ⟨rfl, hb1⟩

set_option maxHeartbeats 1000000 in
set_option maxRecDepth 20000 in
theorem f64_20  (w : World) :
    Calls Try.prog 64 #[.int .i64 2, .int .i64 0] w fun e w' => e = .returned (.bool (allowP 2 0)) ∧ Below w.heap.size w w' := by
  have HF : Hd (portB 2 = true) := ⟨by decide⟩
  have HT : Hd (portB 0 = true) := ⟨by decide⟩
  go_enter Try.func64, Try.ntmps64
  go_wp2_with fail
  refine (f88_is 2 true HF.out _).mono ?_
  rintro e w1 ⟨rfl, rfl⟩
  go_wp2_with fail
  refine (f88_is 0 true HT.out _).mono ?_
  rintro e w1 ⟨rfl, rfl⟩
  go_wp2
  go_ret
  exact ⟨rfl, Below.refl _ _⟩

set_option maxHeartbeats 1000000 in
set_option maxRecDepth 20000 in
theorem f64_21  (w : World) :
    Calls Try.prog 64 #[.int .i64 2, .int .i64 1] w fun e w' => e = .returned (.bool (allowP 2 1)) ∧ Below w.heap.size w w' := by
  have HF : Hd (portB 2 = true) := ⟨by decide⟩
  have HT : Hd (portB 1 = true) := ⟨by decide⟩
  go_enter Try.func64, Try.ntmps64
  go_wp2_with fail
  refine (f88_is 2 true HF.out _).mono ?_
  rintro e w1 ⟨rfl, rfl⟩
  go_wp2_with fail
  refine (f88_is 1 true HT.out _).mono ?_
  rintro e w1 ⟨rfl, rfl⟩
  go_wp2_with fail
  refine (f43_any 2 _).mono ?_
  rintro e w1 ⟨rfl, hb1⟩
  simp only [show backP 2 = 1 from rfl]
  go_wp2
  go_ret
  exact ⟨rfl, hb1⟩

set_option maxHeartbeats 1000000 in
set_option maxRecDepth 20000 in
theorem f64_22  (w : World) :
    Calls Try.prog 64 #[.int .i64 2, .int .i64 2] w fun e w' => e = .returned (.bool (allowP 2 2)) ∧ Below w.heap.size w w' := by
  have HF : Hd (portB 2 = true) := ⟨by decide⟩
  have HT : Hd (portB 2 = true) := ⟨by decide⟩
  go_enter Try.func64, Try.ntmps64
  go_wp2_with fail
  refine (f88_is 2 true HF.out _).mono ?_
  rintro e w1 ⟨rfl, rfl⟩
  go_wp2_with fail
  refine (f88_is 2 true HT.out _).mono ?_
  rintro e w1 ⟨rfl, rfl⟩
  go_wp2
  go_ret
  exact ⟨rfl, Below.refl _ _⟩

set_option maxHeartbeats 1000000 in
set_option maxRecDepth 20000 in
theorem f64_23  (w : World) :
    Calls Try.prog 64 #[.int .i64 2, .int .i64 3] w fun e w' => e = .returned (.bool (allowP 2 3)) ∧ Below w.heap.size w w' := by
  have HF : Hd (portB 2 = true) := ⟨by decide⟩
  have HT : Hd (portB 3 = true) := ⟨by decide⟩
  go_enter Try.func64, Try.ntmps64
  go_wp2_with fail
  refine (f88_is 2 true HF.out _).mono ?_
  rintro e w1 ⟨rfl, rfl⟩
  go_wp2_with fail
  refine (f88_is 3 true HT.out _).mono ?_
  rintro e w1 ⟨rfl, rfl⟩
  go_wp2_with fail
  refine (f43_any 2 _).mono ?_
  rintro e w1 ⟨rfl, hb1⟩
  simp only [show backP 2 = 1 from rfl]
  go_wp2
  go_ret
  exact ⟨rfl, hb1⟩

set_option maxHeartbeats 1000000 in
set_option maxRecDepth 20000 in
theorem f64_24  (w : World) :
    Calls Try.prog 64 #[.int .i64 2, .int .i64 4] w fun e w' => e = .returned (.bool (allowP 2 4)) ∧ Below w.heap.size w w' := by
  have HF : Hd (portB 2 = true) := ⟨by decide⟩
  have HT : Hd (portB 4 = true) := ⟨by decide⟩
  go_enter Try.func64, Try.ntmps64
  go_wp2_with fail
  refine (f88_is 2 true HF.out _).mono ?_
  rintro e w1 ⟨rfl, rfl⟩
  go_wp2_with fail
  refine (f88_is 4 true HT.out _).mono ?_
  rintro e w1 ⟨rfl, rfl⟩
  go_wp2_with fail
  refine (f43_any 2 _).mono ?_
  rintro e w1 ⟨rfl, hb1⟩
  simp only [show backP 2 = 1 from rfl]
  go_wp2
  go_ret
  exact ⟨rfl, hb1⟩

set_option maxHeartbeats 1000000 in
set_option maxRecDepth 20000 in
theorem f64_30  (w : World) :
    Calls Try.prog 64 #[.int .i64 3, .int .i64 0] w fun e w' => e = .returned (.bool (allowP 3 0)) ∧ Below w.heap.size w w' := by
  have HF : Hd (portB 3 = true) := ⟨by decide⟩
  have HT : Hd (portB 0 = true) := ⟨by decide⟩
  go_enter Try.func64, Try.ntmps64
  go_wp2_with fail
  refine (f88_is 3 true HF.out _).mono ?_
  rintro e w1 ⟨rfl, rfl⟩
  go_wp2_with fail
  refine (f88_is 0 true HT.out _).mono ?_
  rintro e w1 ⟨rfl, rfl⟩
  go_wp2
  go_ret
  exact ⟨rfl, Below.refl _ _⟩

set_option maxHeartbeats 1000000 in
set_option maxRecDepth 20000 in
theorem f64_31  (w : World) :
    Calls Try.prog 64 #[.int .i64 3, .int .i64 1] w fun e w' => e = .returned (.bool (allowP 3 1)) ∧ Below w.heap.size w w' := by
  have HF : Hd (portB 3 = true) := ⟨by decide⟩
  have HT : Hd (portB 1 = true) := ⟨by decide⟩
  go_enter Try.func64, Try.ntmps64
  go_wp2_with fail
  refine (f88_is 3 true HF.out _).mono ?_
  rintro e w1 ⟨rfl, rfl⟩
  go_wp2_with fail
  refine (f88_is 1 true HT.out _).mono ?_
  rintro e w1 ⟨rfl, rfl⟩
  go_wp2_with fail
  refine (f43_any 3 _).mono ?_
  rintro e w1 ⟨rfl, hb1⟩
  simp only [show backP 3 = 4 from rfl]
  go_wp2
  go_ret
  exact ⟨rfl, hb1⟩

set_option maxHeartbeats 1000000 in
set_option maxRecDepth 20000 in
theorem f64_32  (w : World) :
    Calls Try.prog 64 #[.int .i64 3, .int .i64 2] w fun e w' => e = .returned (.bool (allowP 3 2)) ∧ Below w.heap.size w w' := by
  have HF : Hd (portB 3 = true) := ⟨by decide⟩
  have HT : Hd (portB 2 = true) := ⟨by decide⟩
  go_enter Try.func64, Try.ntmps64
  go_wp2_with fail
  refine (f88_is 3 true HF.out _).mono ?_
  rintro e w1 ⟨rfl, rfl⟩
  go_wp2_with fail
  refine (f88_is 2 true HT.out _).mono ?_
  rintro e w1 ⟨rfl, rfl⟩
  go_wp2
  go_ret
  exact ⟨rfl, Below.refl _ _⟩

set_option maxHeartbeats 1000000 in
set_option maxRecDepth 20000 in
theorem f64_33  (w : World) :
    Calls Try.prog 64 #[.int .i64 3, .int .i64 3] w fun e w' => e = .returned (.bool (allowP 3 3)) ∧ Below w.heap.size w w' := by
  have HF : Hd (portB 3 = true) := ⟨by decide⟩
  have HT : Hd (portB 3 = true) := ⟨by decide⟩
  go_enter Try.func64, Try.ntmps64
  go_wp2_with fail
  refine (f88_is 3 true HF.out _).mono ?_
  rintro e w1 ⟨rfl, rfl⟩
  go_wp2_with fail
  refine (f88_is 3 true HT.out _).mono ?_
  rintro e w1 ⟨rfl, rfl⟩
  go_wp2
  go_ret
  exact ⟨rfl, Below.refl _ _⟩

set_option maxHeartbeats 1000000 in
set_option maxRecDepth 20000 in
theorem f64_34  (w : World) :
    Calls Try.prog 64 #[.int .i64 3, .int .i64 4] w fun e w' => e = .returned (.bool (allowP 3 4)) ∧ Below w.heap.size w w' := by
  have HF : Hd (portB 3 = true) := ⟨by decide⟩
  have HT : Hd (portB 4 = true) := ⟨by decide⟩
  go_enter Try.func64, Try.ntmps64
  go_wp2_with fail
  refine (f88_is 3 true HF.out _).mono ?_
  rintro e w1 ⟨rfl, rfl⟩
  go_wp2_with fail
  refine (f88_is 4 true HT.out _).mono ?_
  rintro e w1 ⟨rfl, rfl⟩
  go_wp2_with fail
  refine (f43_any 3 _).mono ?_
  rintro e w1 ⟨rfl, hb1⟩
  simp only [show backP 3 = 4 from rfl]
  go_wp2
  go_ret
  exact ⟨rfl, hb1⟩

set_option maxHeartbeats 1000000 in
set_option maxRecDepth 20000 in
theorem f64_40  (w : World) :
    Calls Try.prog 64 #[.int .i64 4, .int .i64 0] w fun e w' => e = .returned (.bool (allowP 4 0)) ∧ Below w.heap.size w w' := by
  have HF : Hd (portB 4 = true) := ⟨by decide⟩
  have HT : Hd (portB 0 = true) := ⟨by decide⟩
  go_enter Try.func64, Try.ntmps64
  go_wp2_with fail
  refine (f88_is 4 true HF.out _).mono ?_
  rintro e w1 ⟨rfl, rfl⟩
  go_wp2_with fail
  refine (f88_is 0 true HT.out _).mono ?_
  rintro e w1 ⟨rfl, rfl⟩
  go_wp2
  go_ret
  exact ⟨rfl, Below.refl _ _⟩

set_option maxHeartbeats 1000000 in
set_option maxRecDepth 20000 in
theorem f64_41  (w : World) :
    Calls Try.prog 64 #[.int .i64 4, .int .i64 1] w fun e w' => e = .returned (.bool (allowP 4 1)) ∧ Below w.heap.size w w' := by
  have HF : Hd (portB 4 = true) := ⟨by decide⟩
  have HT : Hd (portB 1 = true) := ⟨by decide⟩
  go_enter Try.func64, Try.ntmps64
  go_wp2_with fail
  refine (f88_is 4 true HF.out _).mono ?_
  rintro e w1 ⟨rfl, rfl⟩
  go_wp2_with fail
  refine (f88_is 1 true HT.out _).mono ?_
  rintro e w1 ⟨rfl, rfl⟩
  go_wp2_with fail
  refine (f43_any 4 _).mono ?_
  rintro e w1 ⟨rfl, hb1⟩
  simp only [show backP 4 = 3 from rfl]
  go_wp2
  go_ret
  exact ⟨rfl, hb1⟩

set_option maxHeartbeats 1000000 in
set_option maxRecDepth 20000 in
theorem f64_42  (w : World) :
    Calls Try.prog 64 #[.int .i64 4, .int .i64 2] w fun e w' => e = .returned (.bool (allowP 4 2)) ∧ Below w.heap.size w w' := by
  have HF : Hd (portB 4 = true) := ⟨by decide⟩
  have HT : Hd (portB 2 = true) := ⟨by decide⟩
  go_enter Try.func64, Try.ntmps64
  go_wp2_with fail
  refine (f88_is 4 true HF.out _).mono ?_
  rintro e w1 ⟨rfl, rfl⟩
  go_wp2_with fail
  refine (f88_is 2 true HT.out _).mono ?_
  rintro e w1 ⟨rfl, rfl⟩
  go_wp2
  go_ret
  exact ⟨rfl, Below.refl _ _⟩

set_option maxHeartbeats 1000000 in
set_option maxRecDepth 20000 in
theorem f64_43  (w : World) :
    Calls Try.prog 64 #[.int .i64 4, .int .i64 3] w fun e w' => e = .returned (.bool (allowP 4 3)) ∧ Below w.heap.size w w' := by
  have HF : Hd (portB 4 = true) := ⟨by decide⟩
  have HT : Hd (portB 3 = true) := ⟨by decide⟩
  go_enter Try.func64, Try.ntmps64
  go_wp2_with fail
  refine (f88_is 4 true HF.out _).mono ?_
  rintro e w1 ⟨rfl, rfl⟩
  go_wp2_with fail
  refine (f88_is 3 true HT.out _).mono ?_
  rintro e w1 ⟨rfl, rfl⟩
  go_wp2_with fail
  refine (f43_any 4 _).mono ?_
  rintro e w1 ⟨rfl, hb1⟩
  simp only [show backP 4 = 3 from rfl]
  go_wp2
  go_ret
  exact ⟨rfl, hb1⟩

set_option maxHeartbeats 1000000 in
set_option maxRecDepth 20000 in
theorem f64_44  (w : World) :
    Calls Try.prog 64 #[.int .i64 4, .int .i64 4] w fun e w' => e = .returned (.bool (allowP 4 4)) ∧ Below w.heap.size w w' := by
  have HF : Hd (portB 4 = true) := ⟨by decide⟩
  have HT : Hd (portB 4 = true) := ⟨by decide⟩
  go_enter Try.func64, Try.ntmps64
  go_wp2_with fail
  refine (f88_is 4 true HF.out _).mono ?_
  rintro e w1 ⟨rfl, rfl⟩
  go_wp2_with fail
  refine (f88_is 4 true HT.out _).mono ?_
  rintro e w1 ⟨rfl, rfl⟩
  go_wp2
  go_ret
  exact ⟨rfl, Below.refl _ _⟩

theorem f64_any (f t : Int) (w : World) :
    Calls Try.prog 64 #[.int .i64 f, .int .i64 t] w fun e w' => e = .returned (.bool (allowP f t)) ∧ Below w.heap.size w w' := by
  rcases hf : portB f with _ | _
  · exact f64_nf f t hf w
  · rcases ht : portB t with _ | _
    · exact f64_nt f t hf ht w
    · unfold portB at hf ht
      simp at hf ht
      have h1 : f = 0 ∨ f = 1 ∨ f = 2 ∨ f = 3 ∨ f = 4 := by omega
      have h2 : t = 0 ∨ t = 1 ∨ t = 2 ∨ t = 3 ∨ t = 4 := by omega
      rcases h1 with rfl | rfl | rfl | rfl | rfl
      · rcases h2 with rfl | rfl | rfl | rfl | rfl
        · exact f64_00 w
        · exact f64_01 w
        · exact f64_02 w
        · exact f64_03 w
        · exact f64_04 w
      · rcases h2 with rfl | rfl | rfl | rfl | rfl
        · exact f64_10 w
        · exact f64_11 w
        · exact f64_12 w
        · exact f64_13 w
        · exact f64_14 w
      · rcases h2 with rfl | rfl | rfl | rfl | rfl
        · exact f64_20 w
        · exact f64_21 w
        · exact f64_22 w
        · exact f64_23 w
        · exact f64_24 w
      · rcases h2 with rfl | rfl | rfl | rfl | rfl
        · exact f64_30 w
        · exact f64_31 w
        · exact f64_32 w
        · exact f64_33 w
        · exact f64_34 w
      · rcases h2 with rfl | rfl | rfl | rfl | rfl
        · exact f64_40 w
        · exact f64_41 w
        · exact f64_42 w
        · exact f64_43 w
        · exact f64_44 w
theorem f64_is (f t : Int) (b : Bool) (h : allowP f t = b) (w : World) : Calls Try.prog 64 #[.int .i64 f, .int .i64 t] w fun e w' => e = .returned (.bool b) ∧ Below w.heap.size w w' := by
  subst h; exact f64_any f t w

end Go.Proofs.Ytnbogjiddildaaa
