/- Words and work of a packet: contracts of walk.size, Words, Work, slices.IsSorted, and their references; of the laws' small. -/
import Derived.Test.YtnbogjiddildaaaT12
import Derived.Test.YtnbogjiddildaaaJ
import Derived.Deep.QuietTactic
import Derived.BigQuiet
namespace Go.Proofs.Ytnbogjiddildaaa
open Go.RowKit
set_option linter.unusedSimpArgs false
set_option linter.unusedVariables false

def sizeB (n : Int) : Bool := decide (0 ≤ n) && decide (n ≤ 64)
def wordsP (h b : Int) : Int := if h < 1 ∨ sizeB b = false then -1 else h + max 1 ((b + 5) / 6)
theorem size_no {b : Int} (h : b < 0 ∨ 64 < b) : sizeB b = false := by
  unfold sizeB; rw [Bool.and_eq_false_iff]; simp; omega
theorem size_yes {b : Int} (h : 0 ≤ b) (h' : b ≤ 64) : sizeB b = true := by unfold sizeB; simp [h, h']
theorem words_no {h b : Int} (hh : h < 1 ∨ b < 0 ∨ 64 < b) : wordsP h b = -1 := by
  unfold wordsP; rw [if_pos]
  rcases hh with hh | hh
  · exact .inl hh
  · exact .inr (size_no hh)
theorem words_yes {h b : Int} (h1 : 1 ≤ h) (b0 : 0 ≤ b) (b1 : b ≤ 64) : wordsP h b = h + max 1 ((b + 5) / 6) := by
  unfold wordsP; rw [if_neg]
  rw [size_yes b0 b1]; simp; omega
theorem max_def' (a b : Int) : max a b = if a ≤ b then b else a := by omega

set_option maxHeartbeats 1000000 in
set_option maxRecDepth 20000 in
theorem f91_any (n : Int) (w : World) :
    Calls Try.prog 91 #[.int .i64 n] w fun e w' => e = .returned (.bool (sizeB n)) ∧ w = w' := by
  unfold sizeB
  by_cases h0 : 0 ≤ n
  · by_cases h1 : n ≤ 64
    all_goals
      have H0 := Hd.mk h0
      have H1 := Hd.mk h1
      go_enter Try.func91, Try.ntmps91
      go_wp2
      go_ret
      exact ⟨ret_bool (by have := H0.out; have := H1.out; simp; omega), rfl⟩
  · have H0 := Hd.mk h0
    go_enter Try.func91, Try.ntmps91
    go_wp2
    go_ret
    exact ⟨ret_bool (by have := H0.out; simp; omega), rfl⟩

theorem f91_is (n : Int) (b : Bool) (h : sizeB n = b) (w : World) : Calls Try.prog 91 #[.int .i64 n] w fun e w' => e = .returned (.bool b) ∧ w = w' := by
  subst h; exact f91_any n w

set_option maxHeartbeats 1000000 in
set_option maxRecDepth 20000 in
theorem f70_h (h b : Int) (hh : h < 1) (w : World) :
    Calls Try.prog 70 #[.int .i64 h, .int .i64 b] w fun e w' => e = .returned (.int .i64 (wordsP h b)) ∧ w = w' := by
  have HW := Hd.mk (words_no (h := h) (b := b) (.inl hh))
  go_enter Try.func70, Try.ntmps70
  go_wp2
  go_ret
  exact ⟨ret_int HW.out.symm, rfl⟩

set_option maxHeartbeats 1000000 in
set_option maxRecDepth 20000 in
theorem f70_b (h b : Int) (hh : 1 ≤ h) (hb : b < 0 ∨ 64 < b) (w : World) :
    Calls Try.prog 70 #[.int .i64 h, .int .i64 b] w fun e w' => e = .returned (.int .i64 (wordsP h b)) ∧ w = w' := by
  have HW := Hd.mk (words_no (h := h) (b := b) (.inr hb))
  have HS := Hd.mk (size_no hb)
  have hh' : ¬ h < 1 := by omega
  clear hb
  go_enter Try.func70, Try.ntmps70
  go_wp2_with fail
  refine (f91_is b false HS.out _).mono ?_
  rintro e w1 ⟨rfl, rfl⟩
  go_wp2
  go_ret
  exact ⟨ret_int HW.out.symm, rfl⟩

set_option maxHeartbeats 1000000 in
set_option maxRecDepth 20000 in
theorem f70_in (h b : Int) (hh : 1 ≤ h) (h2 : h ≤ 1000000) (b0 : 0 ≤ b) (b1 : b ≤ 64) (w : World) :
    Calls Try.prog 70 #[.int .i64 h, .int .i64 b] w fun e w' => e = .returned (.int .i64 (wordsP h b)) ∧ w = w' := by
  have HW := Hd.mk (words_yes hh b0 b1)
  have HS := Hd.mk (size_yes b0 b1)
  have hh' : ¬ h < 1 := by omega
  go_enter Try.func70, Try.ntmps70
  go_wp2_with fail
  refine (f91_is b true HS.out _).mono ?_
  rintro e w1 ⟨rfl, rfl⟩
  go_wp2
  all_goals
    go_ret
    exact ⟨ret_int (by rw [HW.out]; simp only [max_def']; first | rfl | omega | (split <;> omega)), rfl⟩

theorem f70_any (h b : Int) (h2 : h ≤ 1000000) (w : World) : Calls Try.prog 70 #[.int .i64 h, .int .i64 b] w fun e w' => e = .returned (.int .i64 (wordsP h b)) ∧ w = w' := by
  by_cases hh : h < 1
  · exact f70_h h b hh w
  · by_cases b0 : b < 0
    · exact f70_b h b (by omega) (.inl b0) w
    · by_cases b1 : 64 < b
      · exact f70_b h b (by omega) (.inr b1) w
      · exact f70_in h b (by omega) h2 (by omega) (by omega) w
theorem f70_is (h b r : Int) (hr : wordsP h b = r) (h2 : h ≤ 1000000) (w : World) : Calls Try.prog 70 #[.int .i64 h, .int .i64 b] w fun e w' => e = .returned (.int .i64 r) ∧ w = w' := by
  subst hr; exact f70_any h b h2 w

set_option maxHeartbeats 1000000 in
set_option maxRecDepth 20000 in
theorem f71_h (h b : Int) (hh : h < 1) (w : World) :
    Calls Try.prog 71 #[.int .i64 h, .int .i64 b] w fun e w' => e = .returned (.int .i64 (wordsP h b)) ∧ w = w' := by
  have HW := Hd.mk (words_no (h := h) (b := b) (.inl hh))
  go_enter Try.func71, Try.ntmps71
  go_wp2
  go_ret
  exact ⟨ret_int HW.out.symm, rfl⟩

set_option maxHeartbeats 1000000 in
set_option maxRecDepth 20000 in
theorem f71_b0 (h b : Int) (hh : 1 ≤ h) (hb : b < 0) (w : World) :
    Calls Try.prog 71 #[.int .i64 h, .int .i64 b] w fun e w' => e = .returned (.int .i64 (wordsP h b)) ∧ w = w' := by
  have HW := Hd.mk (words_no (h := h) (b := b) (.inr (.inl hb)))
  have hh' : ¬ h < 1 := by omega
  go_enter Try.func71, Try.ntmps71
  go_wp2
  go_ret
  exact ⟨ret_int HW.out.symm, rfl⟩

set_option maxHeartbeats 1000000 in
set_option maxRecDepth 20000 in
theorem f71_b1 (h b : Int) (hh : 1 ≤ h) (hb : 64 < b) (w : World) :
    Calls Try.prog 71 #[.int .i64 h, .int .i64 b] w fun e w' => e = .returned (.int .i64 (wordsP h b)) ∧ w = w' := by
  have HW := Hd.mk (words_no (h := h) (b := b) (.inr (.inr hb)))
  have hh' : ¬ h < 1 := by omega
  have hb' : ¬ b < 0 := by omega
  go_enter Try.func71, Try.ntmps71
  go_wp2
  go_ret
  exact ⟨ret_int HW.out.symm, rfl⟩

set_option maxHeartbeats 1000000 in
set_option maxRecDepth 20000 in
theorem f71_in (h b : Int) (hh : 1 ≤ h) (h2 : h ≤ 1000000) (b0 : 0 ≤ b) (b1 : b ≤ 64) (w : World) :
    Calls Try.prog 71 #[.int .i64 h, .int .i64 b] w fun e w' => e = .returned (.int .i64 (wordsP h b)) ∧ w = w' := by
  have HW := Hd.mk (words_yes hh b0 b1)
  have hh' : ¬ h < 1 := by omega
  have hb' : ¬ b < 0 := by omega
  have hb2 : ¬ 64 < b := by omega
  go_enter Try.func71, Try.ntmps71
  go_wp2_with fail
  go_loop [5, 6] (fun n l => ∃ k : Nat, k ≤ 11 ∧ 6 * (k : Int) ≤ b ∧ (0 < k → 6 * (k : Int) < b) ∧ n = .int .i64 (h + k) ∧ l = .int .i64 (b - 6 * k)) (fun _ l => (intOf l).toNat)
  case atStart => exact ⟨0, by omega, by omega, by omega, by go_num, by go_num⟩
  case round =>
    obtain ⟨k, hk, hk1, hk2, rfl, rfl⟩ := hrel
    by_cases hlt : 6 < b - 6 * (k : Int)
    · go_wp2
      go_round
      case rel => exact ⟨k + 1, by omega, by omega, by omega, by go_num, by go_num⟩
      case measure => simp [intOf]; omega
    · go_wp2
      go_ret
      exact ⟨ret_int (by rw [HW.out]; omega), rfl⟩

theorem f71_any (h b : Int) (h2 : h ≤ 1000000) (w : World) : Calls Try.prog 71 #[.int .i64 h, .int .i64 b] w fun e w' => e = .returned (.int .i64 (wordsP h b)) ∧ w = w' := by
  by_cases hh : h < 1
  · exact f71_h h b hh w
  · by_cases b0 : b < 0
    · exact f71_b0 h b (by omega) b0 w
    · by_cases b1 : 64 < b
      · exact f71_b1 h b (by omega) b1 w
      · exact f71_in h b (by omega) h2 (by omega) (by omega) w
theorem f71_is (h b r : Int) (hr : wordsP h b = r) (h2 : h ≤ 1000000) (w : World) : Calls Try.prog 71 #[.int .i64 h, .int .i64 b] w fun e w' => e = .returned (.int .i64 r) ∧ w = w' := by
  subst hr; exact f71_any h b h2 w

set_option maxHeartbeats 1000000 in
set_option maxRecDepth 20000 in
theorem f104_any (x : Int) (w : World) :
    Calls Try.prog 104 #[.int .i64 x] w fun e w' => e = .returned (.bool false) ∧ w = w' := by
  have hx : (x != x) = false := by simp
  go_enter Try.func104, Try.ntmps104
  go_wp2
  go_ret
  exact ⟨by simp, rfl⟩

set_option maxHeartbeats 1000000 in
set_option maxRecDepth 20000 in
theorem f100_any (x y : Int) (w : World) :
    Calls Try.prog 100 #[.int .i64 x, .int .i64 y] w fun e w' => e = .returned (.bool (decide (x < y))) ∧ w' = w := by
  go_enter Try.func100, Try.ntmps100
  go_wp2_with fail
  refine (f104_any x _).mono ?_
  rintro e w1 ⟨rfl, rfl⟩
  go_wp2
  go_ret
  exact ⟨by simp, rfl⟩

theorem f100_is (x y : Int) (b : Bool) (h : decide (x < y) = b) (w : World) : Calls Try.prog 100 #[.int .i64 x, .int .i64 y] w fun e w' => e = .returned (.bool b) ∧ w' = w := by
  subst h; exact f100_any x y w

/-- Rising (not falling) numbers. -/
def Srt (xs : List Int) : Prop := ∀ (i : Nat) (x y : Int), xs[i]? = some x → xs[i + 1]? = some y → x ≤ y
noncomputable def srtB (xs : List Int) : Bool := @decide (Srt xs) (Classical.propDecidable _)
theorem srt_yes {xs : List Int} (h : Srt xs) : srtB xs = true := @decide_eq_true _ (Classical.propDecidable _) h
theorem srt_is {xs : List Int} (h : srtB xs = true) : Srt xs := @of_decide_eq_true _ (Classical.propDecidable _) h
theorem srt_no {xs : List Int} {i : Nat} {x y : Int} (hx : xs[i]? = some x) (hy : xs[i + 1]? = some y) (h : y < x) : srtB xs = false := by
  exact @decide_eq_false _ (Classical.propDecidable _) (fun hs => by have := hs i x y hx hy; omega)
structure RelSrt (xs : List Int) (A : Option Addr) (w : World) (i : Value) (W : World) (k : Nat) : Prop where
  kl : k < xs.length
  hi : i = .int .i64 (k : Int)
  rd : Rd W A xs
  so : Hd (∀ (j : Nat) (x y : Int), k ≤ j → xs[j]? = some x → xs[j + 1]? = some y → x ≤ y)
  b : Below w.heap.size w W

set_option maxHeartbeats 1000000 in
set_option maxRecDepth 20000 in
theorem f92_nil (A : Option Addr) (cap : Nat) (xs : List Int) (hl : xs.length = 0) (w : World) :
    Calls Try.prog 92 #[.slice A xs.length cap] w fun e w' => e = .returned (.bool (srtB xs)) ∧ Below w.heap.size w w' := by
  have HS : Hd (srtB xs = true) := ⟨srt_yes (fun i x y hx => by rw [List.getElem?_eq_none (by omega)] at hx; cases hx)⟩
  have h0 : xs.length = 0 := hl
  rw [h0]
  go_enter Try.func92, Try.ntmps92
  go_wp2_with fail
  refine wp_loop_rounds 1 ?_
  rw [rounds_succ]
  go_wp2
  go_ret
  exact ⟨ret_bool HS.out.symm, Below.refl _ _⟩

set_option maxHeartbeats 1000000 in
set_option maxRecDepth 20000 in
theorem f92_in (w : World) (A : Option Addr) (cap : Nat) (xs : List Int) (hl : 0 < xs.length) (hm : xs.length ≤ 1000000) (hr : Rd w A xs) :
    Calls Try.prog 92 #[.slice A xs.length cap] w fun e w' => e = .returned (.bool (srtB xs)) ∧ Below w.heap.size w w' := by
  have HR := Hd.mk hr
  clear hr
  go_enter Try.func92, Try.ntmps92
  go_wp2_with fail
  go_loopw [3] (fun i W => ∃ k : Nat, RelSrt xs A w i W k) (fun i _ => (intOf i).toNat)
  case atStart => exact ⟨xs.length - 1, by omega, by rw [Int.natCast_sub (by omega)]; rfl, HR.out, ⟨fun j x y hj hx hy => by rw [List.getElem?_eq_none (by omega)] at hy; cases hy⟩, Below.refl _ _⟩
  case round =>
    obtain ⟨k, hk, rfl, hrd, HSO, hbw⟩ := hrel
    have RD := Hd.mk hrd
    have HB := Hd.mk hbw
    clear hrd hbw HR
    by_cases h0 : 0 < k
    · obtain ⟨j, rfl⟩ : ∃ j, k = j + 1 := ⟨k - 1, by omega⟩
      obtain ⟨x, HX⟩ : ∃ x, Hd (xs[j]? = some x) := ⟨_, ⟨List.getElem?_eq_getElem (by omega)⟩⟩
      obtain ⟨y, HY⟩ : ∃ x, Hd (xs[j + 1]? = some x) := ⟨_, ⟨List.getElem?_eq_getElem (by omega)⟩⟩
      obtain ⟨g, off, rfl, hg, hc⟩ := RD.out (by omega)
      have hx := hc j x HX.out
      have hy := hc (j + 1) y HY.out
      clear hc hg
      have e1 : (((j + 1 : Nat) : Int)) = (j : Int) + 1 := by omega
      have i1 : (0 : Int) ≤ (j : Int) := by omega
      have i2 : (j : Int) + 1 < (xs.length : Int) := by omega
      have i3 : (j : Int) < (xs.length : Int) := by omega
      have i4 : IntKind.i64.wrap ((j : Int) + 1 - 1) = (j : Int) := by rw [IntWalk.i64_in _ (by omega)]; omega
      have i5 : ((j : Int) + 1).toNat = j + 1 := by omega
      rw [e1]
      by_cases hxy : y < x
      · have hd : decide (y < x) = true := decide_eq_true hxy
        have HXY := Hd.mk hxy
        have HS := Hd.mk (srt_no HX.out HY.out hxy)
        clear hxy
        go_wp2_with fail
        go_quiet ((go_at_call 100; exact Calls.quiet_of_same (f100_is y x true hd _)))
        clear i4 i5
        go_wp2
        go_ret
        exact ⟨ret_bool HS.out.symm, bdrewN HB.out _⟩
      · have hd : decide (y < x) = false := decide_eq_false hxy
        have HXY := Hd.mk hxy
        clear hxy
        go_wp2_with fail
        go_quiet ((go_at_call 100; exact Calls.quiet_of_same (f100_is y x false hd _)))
        clear i4 i5
        go_wp2
        go_roundw
        case rel => exact ⟨j, by omega, by go_num, RD.out.drewN _, ⟨fun i u v hi hu hv => by
          rcases Nat.lt_or_ge j i with h | h
          · exact HSO.out i u v (by omega) hu hv
          · obtain rfl : i = j := by omega
            rw [HX.out] at hu
            rw [HY.out] at hv
            injection hu with hu
            injection hv with hv
            have := HXY.out
            omega⟩, bdrewN HB.out _⟩
        case measure => simp [intOf]
    · obtain rfl : k = 0 := by omega
      have HS := Hd.mk (srt_yes (fun i x y hx hy => HSO.out i x y (by omega) hx hy))
      go_wp2
      go_ret
      exact ⟨ret_bool HS.out.symm, HB.out⟩

theorem f92_any (w : World) (A : Option Addr) (cap : Nat) (xs : List Int) (hm : xs.length ≤ 1000000) (hr : Rd w A xs) : Calls Try.prog 92 #[.slice A xs.length cap] w fun e w' => e = .returned (.bool (srtB xs)) ∧ Below w.heap.size w w' := by
  rcases Nat.eq_zero_or_pos xs.length with h | h
  · exact f92_nil A cap xs h w
  · exact f92_in w A cap xs h hm hr
theorem f92_is (w : World) (A : Option Addr) (cap : Nat) (xs : List Int) (b : Bool) (h : srtB xs = b) (hm : xs.length ≤ 1000000) (hr : Rd w A xs) : Calls Try.prog 92 #[.slice A xs.length cap] w fun e w' => e = .returned (.bool b) ∧ Below w.heap.size w w' := by
  subst h; exact f92_any w A cap xs hm hr

end Go.Proofs.Ytnbogjiddildaaa
