/- Contracts of walk.Channels, rank.Of, Less, Rises. -/
import Derived.Test.YtnbogjiddildaaaU5
import Derived.Test.YtnbogjiddildaaaI
namespace Go.Proofs.Ytnbogjiddildaaa
open Go.RowKit
set_option linter.unusedSimpArgs false
set_option linter.unusedVariables false

structure RelChs (c : Cfg) (ws ps : List Int) (n : Nat) (A' : Option Addr) (cap' : Nat) (w : World) (v i : Value) (W : World) (k : Nat) : Prop where
  kl : k ≤ n
  hi : i = .int .i64 (k : Int)
  row : Row2 W (w.heap.size + 1) v ((ws.zip ps).take k)
  ports : Row W 0 (.slice A' n cap') ps
  s : W.cell? ⟨w.heap.size, 0, none⟩ = some (.int .i64 c.W) ∧ W.cell? ⟨w.heap.size, 1, none⟩ = some (.int .i64 c.H) ∧ W.cell? ⟨w.heap.size, 2, none⟩ = some (.int .i64 c.L) ∧ W.cell? ⟨w.heap.size, 3, none⟩ = some (.int .i64 c.D) ∧ W.cell? ⟨w.heap.size, 4, none⟩ = some (.int .i64 c.R) ∧ W.cell? ⟨w.heap.size, 5, none⟩ = some (.int .i64 c.I) ∧ W.cell? ⟨w.heap.size, 6, none⟩ = some (.int .i64 c.B) ∧ W.cell? ⟨w.heap.size, 7, none⟩ = some (.bool c.ws) ∧ W.cell? ⟨w.heap.size, 8, none⟩ = some (.bool c.cs) ∧ w.heap.size < W.heap.size ∧ Below w.heap.size w W

set_option maxHeartbeats 1000000 in
set_option maxRecDepth 20000 in
theorem f77_adj (w : World) (c : Cfg) (A : Option Addr) (cap : Nat) (ws ps : List Int) (n : Nat) (hn : ps.length = n) (hn2 : n ≤ 200) (hws : ws.length = n + 1) (ha : Adj c ws ps) (hr : Rd w A ws) :
    Calls Try.prog 77 #[cv c, .slice A (n + 1) cap] w fun e w' => ∃ v, e = .returned (.tuple #[v, .bool true]) ∧ Row2 w' w.heap.size v (ws.zip ps) ∧ Below w.heap.size w w' := by
  have HR := Hd.mk hr
  have HA := Hd.mk ha
  have HN := Hd.mk hn
  have HWS := Hd.mk hws
  clear hr ha hn hws
  go_enter Try.func77, Try.ntmps77
  go_wp2_with fail
  refine (f76_adj _ c A cap ws ps n HN.out hn2 HWS.out HA.out (HR.out.below (balloc (Below.refl _ _) _))).mono ?_
  rintro e w1 ⟨v1, rfl, hrow1, hb1⟩
  have S1 := keepS hb1 (s0 c w)
  obtain ⟨A', cap', rfl, hcap', -⟩ := hrow1.rd
  rw [HN.out] at hrow1 hcap'
  rw [HN.out]
  have HP1 := Hd.mk (hrow1.mono (Nat.zero_le _))
  clear hb1 hrow1
  go_wp2_with fail
  go_loopw [8, 19] (fun v i W => ∃ k : Nat, RelChs c ws ps n A' cap' w v i W k) (fun _ i _ => n - (intOf i).toNat)
  case atStart => exact ⟨0, by omega, rfl, Row2.nil_ _ _, HP1.out, S1⟩
  case round =>
    obtain ⟨k, hk, rfl, hrow, hports, hS⟩ := hrel
    have HROW := Hd.mk hrow
    have HP := Hd.mk hports
    clear hrow hports S1 HP1
    by_cases hlt : k < n
    · obtain ⟨x, hx⟩ : ∃ x, ws[k]? = some x := ⟨_, List.getElem?_eq_getElem (by have := HWS.out; omega)⟩
      obtain ⟨p, hp⟩ : ∃ x, ps[k]? = some x := ⟨_, List.getElem?_eq_getElem (by have := HN.out; omega)⟩
      have HTS : Hd ((ws.zip ps).take (k + 1) = (ws.zip ps).take k ++ [(x, p)]) := ⟨by
        have hz : (ws.zip ps)[k]? = some (x, p) := List.getElem?_zip_eq_some.2 ⟨hx, hp⟩
        rw [List.take_add_one, hz]; rfl⟩
      obtain ⟨q, off, rfl, hq, hc⟩ := (HR.out.below (sB hS)) (by have := HWS.out; omega)
      have hcx := hc k x hx
      obtain ⟨gp, op, rfl, hgp, hcp⟩ := (Row.at (n := n) HP.out) (by have := HN.out; omega)
      have hcp' := hcp k p hp
      have i1 : (k : Int) < (n : Int) + 1 := by omega
      have hz4 := hS.2.2.2.2.2.2.2.2.2.1
      have hkl : ((ws.zip ps).take k).length ≤ 200 := by rw [List.length_take]; omega
      clear hc hcp hx hp hq hgp
      go_wp2_with (at_builtin; refine wpList_app2 rfl (.tmp 24) (.tmp 31) rfl (w.heap.size + 1) _ _ rfl _ rfl x p (HROW.out.alloc _) (by simp) (by simp) (by omega) (by simp; omega) ?_; intro v' W2 hr2 hg2)
      have S2 := keepG2 hg2 (HROW.out.alloc _) (by omega) (by omega) (allocS (.cells #[.int .i64 x, .int .i64 p] 30) hS)
      have HR2 := Hd.mk hr2
      have HP2 := Hd.mk ((HP.out.alloc (.cells #[.int .i64 x, .int .i64 p] 30)).keep2 (HROW.out.alloc _) hg2)
      clear hr2 hg2 hS HROW HP
      go_roundw
      case rel => exact ⟨k + 1, by omega, by go_num, by rw [HTS.out]; exact HR2.out, HP2.out, S2⟩
      case measure => simp [intOf]; omega
    · have HK : Hd ((ws.zip ps).take k = ws.zip ps) := ⟨List.take_of_length_le (by rw [List.length_zip]; have := HN.out; omega)⟩
      go_wp2
      go_ret2
      exact ⟨_, rfl, by have h := HROW.out.mono (base' := w.heap.size) (by omega); rw [HK.out] at h; exact h, sB hS⟩

set_option maxHeartbeats 1000000 in
set_option maxRecDepth 20000 in
theorem f95_1 (c : Cfg) (n k : Int) (h : besideP c n 1 = (k, true)) (w : World) :
    Calls Try.prog 95 #[cv c, .int .i64 n, .int .i64 1] w fun e w' => e = .returned (.tuple #[.int .i64 (rankP c n 1), .bool true]) ∧ Below w.heap.size w w' := by
  have HST := Hd.mk h
  have hs := step_of h
  have hi := inn hs.vn
  have hok := chk_okc (isB_chk hs.vn)
  have w1' := hok.W1
  have w2' := hok.W2
  have h1' := hok.H1
  have h2' := hok.H2
  have HPL := Hd.mk (place_yes hs.vn)
  have HRK : Hd (rankP c n 1 = c.W + 2 * (n % c.W) * c.H + c.H) := ⟨by unfold rankP; simp⟩
  have x0 := hi.x0
  have x2 := hi.x2
  have y0 := hi.y0
  have y2 := hi.y2
  obtain ⟨x, hx⟩ : ∃ z, n % c.W = z := ⟨_, rfl⟩
  obtain ⟨y, hy⟩ : ∃ z, n / c.W = z := ⟨_, rfl⟩
  simp only [hx, hy] at HPL HRK
  rw [hx] at x0 x2
  rw [hy] at y0 y2
  have u0 : 0 ≤ 2 * x * c.H := Int.mul_nonneg (by omega) (by omega)
  have u1 : 2 * x * c.H ≤ 8064 := by have := Int.mul_le_mul (show 2 * x ≤ 126 by omega) h2' (by omega) (by omega); omega
  clear h hs hi hok hx hy
  go_enter Try.func95, Try.ntmps95
  go_wp2_with fail
  refine (f34_is c n 1 k true HST.out _).mono ?_
  rintro e w1 ⟨rfl, hb1⟩
  have S1 := keepS hb1 (s0 c w)
  clear hb1
  go_wp2_with fail
  refine (f35_is c n x y 0 HPL.out _).mono ?_
  rintro e w2 ⟨rfl, hb2⟩
  have S2 := keepS hb2 S1
  clear hb2 S1
  go_wp2
  go_ret2
  exact ⟨by rw [HRK.out]; rfl, sB S2⟩

set_option maxHeartbeats 1000000 in
set_option maxRecDepth 20000 in
theorem f95_2 (c : Cfg) (n k : Int) (h : besideP c n 2 = (k, true)) (w : World) :
    Calls Try.prog 95 #[cv c, .int .i64 n, .int .i64 2] w fun e w' => e = .returned (.tuple #[.int .i64 (rankP c n 2), .bool true]) ∧ Below w.heap.size w w' := by
  have HST := Hd.mk h
  have hs := step_of h
  have hi := inn hs.vn
  have hok := chk_okc (isB_chk hs.vn)
  have w1' := hok.W1
  have w2' := hok.W2
  have h1' := hok.H1
  have h2' := hok.H2
  have HPL := Hd.mk (place_yes hs.vn)
  have HRK : Hd (rankP c n 2 = c.W - 1 - n % c.W) := ⟨by unfold rankP; simp⟩
  have x0 := hi.x0
  have x2 := hi.x2
  have y0 := hi.y0
  have y2 := hi.y2
  obtain ⟨x, hx⟩ : ∃ z, n % c.W = z := ⟨_, rfl⟩
  obtain ⟨y, hy⟩ : ∃ z, n / c.W = z := ⟨_, rfl⟩
  simp only [hx, hy] at HPL HRK
  rw [hx] at x0 x2
  rw [hy] at y0 y2
  have u0 : 0 ≤ 2 * x * c.H := Int.mul_nonneg (by omega) (by omega)
  have u1 : 2 * x * c.H ≤ 8064 := by have := Int.mul_le_mul (show 2 * x ≤ 126 by omega) h2' (by omega) (by omega); omega
  clear h hs hi hok hx hy
  go_enter Try.func95, Try.ntmps95
  go_wp2_with fail
  refine (f34_is c n 2 k true HST.out _).mono ?_
  rintro e w1 ⟨rfl, hb1⟩
  have S1 := keepS hb1 (s0 c w)
  clear hb1
  go_wp2_with fail
  refine (f35_is c n x y 0 HPL.out _).mono ?_
  rintro e w2 ⟨rfl, hb2⟩
  have S2 := keepS hb2 S1
  clear hb2 S1
  go_wp2
  go_ret2
  exact ⟨by rw [HRK.out]; rfl, sB S2⟩

set_option maxHeartbeats 1000000 in
set_option maxRecDepth 20000 in
theorem f95_3 (c : Cfg) (n k : Int) (h : besideP c n 3 = (k, true)) (w : World) :
    Calls Try.prog 95 #[cv c, .int .i64 n, .int .i64 3] w fun e w' => e = .returned (.tuple #[.int .i64 (rankP c n 3), .bool true]) ∧ Below w.heap.size w w' := by
  have HST := Hd.mk h
  have hs := step_of h
  have hi := inn hs.vn
  have hok := chk_okc (isB_chk hs.vn)
  have w1' := hok.W1
  have w2' := hok.W2
  have h1' := hok.H1
  have h2' := hok.H2
  have HPL := Hd.mk (place_yes hs.vn)
  have HRK : Hd (rankP c n 3 = c.W + 2 * (n % c.W) * c.H + n / c.W) := ⟨by unfold rankP; simp⟩
  have x0 := hi.x0
  have x2 := hi.x2
  have y0 := hi.y0
  have y2 := hi.y2
  obtain ⟨x, hx⟩ : ∃ z, n % c.W = z := ⟨_, rfl⟩
  obtain ⟨y, hy⟩ : ∃ z, n / c.W = z := ⟨_, rfl⟩
  simp only [hx, hy] at HPL HRK
  rw [hx] at x0 x2
  rw [hy] at y0 y2
  have u0 : 0 ≤ 2 * x * c.H := Int.mul_nonneg (by omega) (by omega)
  have u1 : 2 * x * c.H ≤ 8064 := by have := Int.mul_le_mul (show 2 * x ≤ 126 by omega) h2' (by omega) (by omega); omega
  clear h hs hi hok hx hy
  go_enter Try.func95, Try.ntmps95
  go_wp2_with fail
  refine (f34_is c n 3 k true HST.out _).mono ?_
  rintro e w1 ⟨rfl, hb1⟩
  have S1 := keepS hb1 (s0 c w)
  clear hb1
  go_wp2_with fail
  refine (f35_is c n x y 0 HPL.out _).mono ?_
  rintro e w2 ⟨rfl, hb2⟩
  have S2 := keepS hb2 S1
  clear hb2 S1
  go_wp2
  go_ret2
  exact ⟨by rw [HRK.out]; rfl, sB S2⟩

set_option maxHeartbeats 1000000 in
set_option maxRecDepth 20000 in
theorem f95_4 (c : Cfg) (n k : Int) (h : besideP c n 4 = (k, true)) (w : World) :
    Calls Try.prog 95 #[cv c, .int .i64 n, .int .i64 4] w fun e w' => e = .returned (.tuple #[.int .i64 (rankP c n 4), .bool true]) ∧ Below w.heap.size w w' := by
  have HST := Hd.mk h
  have hs := step_of h
  have hi := inn hs.vn
  have hok := chk_okc (isB_chk hs.vn)
  have w1' := hok.W1
  have w2' := hok.W2
  have h1' := hok.H1
  have h2' := hok.H2
  have HPL := Hd.mk (place_yes hs.vn)
  have HRK : Hd (rankP c n 4 = c.W + 2 * (n % c.W) * c.H + c.H - 1 - n / c.W) := ⟨by unfold rankP; simp⟩
  have x0 := hi.x0
  have x2 := hi.x2
  have y0 := hi.y0
  have y2 := hi.y2
  obtain ⟨x, hx⟩ : ∃ z, n % c.W = z := ⟨_, rfl⟩
  obtain ⟨y, hy⟩ : ∃ z, n / c.W = z := ⟨_, rfl⟩
  simp only [hx, hy] at HPL HRK
  rw [hx] at x0 x2
  rw [hy] at y0 y2
  have u0 : 0 ≤ 2 * x * c.H := Int.mul_nonneg (by omega) (by omega)
  have u1 : 2 * x * c.H ≤ 8064 := by have := Int.mul_le_mul (show 2 * x ≤ 126 by omega) h2' (by omega) (by omega); omega
  clear h hs hi hok hx hy
  go_enter Try.func95, Try.ntmps95
  go_wp2_with fail
  refine (f34_is c n 4 k true HST.out _).mono ?_
  rintro e w1 ⟨rfl, hb1⟩
  have S1 := keepS hb1 (s0 c w)
  clear hb1
  go_wp2_with fail
  refine (f35_is c n x y 0 HPL.out _).mono ?_
  rintro e w2 ⟨rfl, hb2⟩
  have S2 := keepS hb2 S1
  clear hb2 S1
  go_wp2
  go_ret2
  exact ⟨by rw [HRK.out]; rfl, sB S2⟩

theorem f95_is (c : Cfg) (n p k r : Int) (h : besideP c n p = (k, true)) (p1 : 1 ≤ p) (hr : rankP c n p = r) (w : World) : Calls Try.prog 95 #[cv c, .int .i64 n, .int .i64 p] w fun e w' => e = .returned (.tuple #[.int .i64 r, .bool true]) ∧ Below w.heap.size w w' := by
  subst hr
  have hp' : p = 1 ∨ p = 2 ∨ p = 3 ∨ p = 4 := by have := (step_of h).p4; omega
  rcases hp' with rfl | rfl | rfl | rfl
  · exact f95_1 c n k h w
  · exact f95_2 c n k h w
  · exact f95_3 c n k h w
  · exact f95_4 c n k h w

set_option maxHeartbeats 1000000 in
set_option maxRecDepth 20000 in
theorem f96_is (c : Cfg) (n p k m q j : Int) (h1 : besideP c n p = (k, true)) (p1 : 1 ≤ p) (h2 : besideP c m q = (j, true)) (q1 : 1 ≤ q) (hlt : rankP c n p < rankP c m q) (w : World) :
    Calls Try.prog 96 #[cv c, .agg #[.int .i64 n, .int .i64 p], .agg #[.int .i64 m, .int .i64 q]] w fun e w' => e = .returned (.bool true) ∧ Below w.heap.size w w' := by
  have H1 := Hd.mk h1
  have H2 := Hd.mk h2
  obtain ⟨r1, HR1⟩ : ∃ z, Hd (rankP c n p = z) := ⟨_, ⟨rfl⟩⟩
  obtain ⟨r2, HR2⟩ : ∃ z, Hd (rankP c m q = z) := ⟨_, ⟨rfl⟩⟩
  rw [HR1.out, HR2.out] at hlt
  clear h1 h2
  go_enter Try.func96, Try.ntmps96
  go_wp2_with fail
  refine (f95_is c n p k r1 H1.out p1 HR1.out _).mono ?_
  rintro e w1 ⟨rfl, hb1⟩
  have S1 := keepS hb1 (allocS _ (allocS _ (s0 c w)))
  have E1 := keepE2 hb1 (e0_2 m q (h := w.heap.size + 2) _ (by simp))
  clear hb1
  go_wp2_with fail
  refine (f95_is c m q j r2 H2.out q1 HR2.out _).mono ?_
  rintro e w2 ⟨rfl, hb2⟩
  have S2 := keepS hb2 S1
  clear hb2 S1 E1
  go_wp2
  go_ret
  exact ⟨ret_bool (by first | (simp; done) | (simp; omega)), sB S2⟩

theorem keepSLE {c : Cfg} {g q h o1 o2 : Nat} {n1 p1 n2 p2 : Int} {w W W' : World} (hb : Below W.heap.size W W') (H : (W.cell? ⟨g, 0, none⟩ = some (.int .i64 c.W) ∧ W.cell? ⟨g, 1, none⟩ = some (.int .i64 c.H) ∧ W.cell? ⟨g, 2, none⟩ = some (.int .i64 c.L) ∧ W.cell? ⟨g, 3, none⟩ = some (.int .i64 c.D) ∧ W.cell? ⟨g, 4, none⟩ = some (.int .i64 c.R) ∧ W.cell? ⟨g, 5, none⟩ = some (.int .i64 c.I) ∧ W.cell? ⟨g, 6, none⟩ = some (.int .i64 c.B) ∧ W.cell? ⟨g, 7, none⟩ = some (.bool c.ws) ∧ W.cell? ⟨g, 8, none⟩ = some (.bool c.cs) ∧ g < W.heap.size ∧ Below w.heap.size w W) ∧ (W.cell? ⟨q, o1, none⟩ = some (.int .i64 n1) ∧ W.cell? ⟨q, o2, none⟩ = some (.int .i64 p1) ∧ q < W.heap.size) ∧ (W.cell? ⟨h, 0, none⟩ = some (.int .i64 n2) ∧ W.cell? ⟨h, 1, none⟩ = some (.int .i64 p2) ∧ h < W.heap.size)) : (W'.cell? ⟨g, 0, none⟩ = some (.int .i64 c.W) ∧ W'.cell? ⟨g, 1, none⟩ = some (.int .i64 c.H) ∧ W'.cell? ⟨g, 2, none⟩ = some (.int .i64 c.L) ∧ W'.cell? ⟨g, 3, none⟩ = some (.int .i64 c.D) ∧ W'.cell? ⟨g, 4, none⟩ = some (.int .i64 c.R) ∧ W'.cell? ⟨g, 5, none⟩ = some (.int .i64 c.I) ∧ W'.cell? ⟨g, 6, none⟩ = some (.int .i64 c.B) ∧ W'.cell? ⟨g, 7, none⟩ = some (.bool c.ws) ∧ W'.cell? ⟨g, 8, none⟩ = some (.bool c.cs) ∧ g < W'.heap.size ∧ Below w.heap.size w W') ∧ (W'.cell? ⟨q, o1, none⟩ = some (.int .i64 n1) ∧ W'.cell? ⟨q, o2, none⟩ = some (.int .i64 p1) ∧ q < W'.heap.size) ∧ (W'.cell? ⟨h, 0, none⟩ = some (.int .i64 n2) ∧ W'.cell? ⟨h, 1, none⟩ = some (.int .i64 p2) ∧ h < W'.heap.size) := by
  refine ⟨keepS hb H.1, ⟨?_, ?_, ?_⟩, keepE2 hb H.2.2⟩
  · rw [hb.cell (by exact H.2.1.2.2)]; exact H.2.1.1
  · rw [hb.cell (by exact H.2.1.2.2)]; exact H.2.1.2.1
  · have := hb.size; have := H.2.1.2.2; omega
/-- Channels that are there, their ranks rising. -/
structure Ris (c : Cfg) (l : List (Int × Int)) : Prop where
  is : ∀ (i : Nat) (x : Int × Int), l[i]? = some x → ∃ k, besideP c x.1 x.2 = (k, true) ∧ 1 ≤ x.2
  up : ∀ (i : Nat) (x y : Int × Int), l[i]? = some x → l[i + 1]? = some y → rankP c x.1 x.2 < rankP c y.1 y.2
structure RelRis (c : Cfg) (w : World) (i : Value) (W : World) (n k : Nat) : Prop where
  kl : k ≤ n
  hi : i = .int .i64 (k : Int)
  s : W.cell? ⟨w.heap.size, 0, none⟩ = some (.int .i64 c.W) ∧ W.cell? ⟨w.heap.size, 1, none⟩ = some (.int .i64 c.H) ∧ W.cell? ⟨w.heap.size, 2, none⟩ = some (.int .i64 c.L) ∧ W.cell? ⟨w.heap.size, 3, none⟩ = some (.int .i64 c.D) ∧ W.cell? ⟨w.heap.size, 4, none⟩ = some (.int .i64 c.R) ∧ W.cell? ⟨w.heap.size, 5, none⟩ = some (.int .i64 c.I) ∧ W.cell? ⟨w.heap.size, 6, none⟩ = some (.int .i64 c.B) ∧ W.cell? ⟨w.heap.size, 7, none⟩ = some (.bool c.ws) ∧ W.cell? ⟨w.heap.size, 8, none⟩ = some (.bool c.cs) ∧ w.heap.size < W.heap.size ∧ Below w.heap.size w W

set_option maxHeartbeats 1000000 in
set_option maxRecDepth 20000 in
theorem f78_is (w : World) (c : Cfg) (A : Option Addr) (cap : Nat) (l : List (Int × Int)) (n : Nat) (hn : l.length = n) (hn2 : n ≤ 200) (hi : Ris c l) (hr : Rd2 w A l) :
    Calls Try.prog 78 #[cv c, .slice A n cap] w fun e w' => e = .returned (.bool true) ∧ Below w.heap.size w w' := by
  have HR := Hd.mk hr
  have HI := Hd.mk hi
  have HN := Hd.mk hn
  clear hr hi hn
  go_enter Try.func78, Try.ntmps78
  go_wp2_with fail
  have S1 := s0 c w
  go_loopw [11] (fun i W => ∃ k : Nat, RelRis c w i W n k) (fun i _ => n - (intOf i).toNat)
  case atStart => exact ⟨0, by omega, rfl, S1⟩
  case round =>
    obtain ⟨k, hk, rfl, hS⟩ := hrel
    clear S1
    by_cases hlt : k < n
    · obtain ⟨⟨n2, p2⟩, hx⟩ : ∃ x, l[k]? = some x := ⟨_, List.getElem?_eq_getElem (by have := HN.out; omega)⟩
      obtain ⟨k2, hb2', hp2⟩ := HI.out.is k _ hx
      have HB2 : Hd (besideP c n2 p2 = (k2, true)) := ⟨hb2'⟩
      have hp2' : 1 ≤ p2 := hp2
      have HX := Hd.mk hx
      obtain ⟨r2, HR2⟩ : ∃ z, Hd (rankP c n2 p2 = z) := ⟨_, ⟨rfl⟩⟩
      obtain ⟨q, off, rfl, hq, hc⟩ := (HR.out.below (sB hS)) (by have := HN.out; omega)
      obtain ⟨c1, c2⟩ := hc k _ hx
      simp only at c1 c2
      have i1 : (0 : Int) ≤ (k : Int) := by omega
      have i2 : (k : Int) < (n : Int) := by omega
      have hz := hS.2.2.2.2.2.2.2.2.2.1
      have S0 := allocS (.cells #[.int .i64 n2, .int .i64 p2] 30) hS
      have hwz : w.heap.size < wr.heap.size := hz
      have E0 := e0_2 n2 p2 (h := wr.heap.size) wr rfl
      clear hx hb2' hp2
      rcases k with _ | j
      · simp only [Nat.zero_mul, Nat.add_zero] at c1 c2
        clear hc
        go_wp2_with fail
        refine (f95_is c n2 p2 k2 r2 HB2.out hp2' HR2.out _).mono ?_
        rintro e w2 ⟨rfl, hb2⟩
        have S2 := keepS hb2 S0
        have HS2 := Hd.mk S2
        clear hb2 hS S0 c1 c2
        go_wp2_with fail
        go_quiet (fail)
        clear S2
        go_wp2
        go_roundw
        case rel => exact ⟨1, by omega, by go_num, drewNS _ HS2.out⟩
        case measure => first | (simp [intOf]; done) | (simp [intOf]; omega)
      · obtain ⟨⟨n1, p1⟩, hx1⟩ : ∃ x, l[j]? = some x := ⟨_, List.getElem?_eq_getElem (by have := HN.out; omega)⟩
        obtain ⟨k1, hb1', hp1⟩ := HI.out.is j _ hx1
        have HB1 : Hd (besideP c n1 p1 = (k1, true)) := ⟨hb1'⟩
        have hp1' : 1 ≤ p1 := hp1
        have HUP : Hd (rankP c n1 p1 < rankP c n2 p2) := ⟨HI.out.up j _ _ hx1 HX.out⟩
        obtain ⟨d1, d2⟩ := hc j _ hx1
        simp only at d1 d2
        have D0 := And.intro S0 (And.intro (And.intro ((World.cell?_alloc_lt wr (.cells #[.int .i64 n2, .int .i64 p2] 30) ⟨q, off + j * 2, none⟩ hq).trans d1) (And.intro ((World.cell?_alloc_lt wr (.cells #[.int .i64 n2, .int .i64 p2] 30) ⟨q, off + j * 2 + 1, none⟩ hq).trans d2) (show q < (wr.alloc (.cells #[.int .i64 n2, .int .i64 p2] 30)).heap.size by simp; omega))) E0)
        have e1 : (((j + 1 : Nat) : Int)) = (j : Int) + 1 := by omega
        clear hx1 hb1' hp1 hc d1 d2
        rw [e1] at i1 i2 ⊢
        go_wp2_with fail
        refine (f95_is c n2 p2 k2 r2 HB2.out hp2' HR2.out _).mono ?_
        rintro e w2 ⟨rfl, hb2⟩
        have D2 := keepSLE hb2 D0
        clear hb2 hS S0 c1 c2 D0 E0
        have j0 : (0 : Int) ≤ (j : Int) := by omega
        have j1 : (j : Int) < (n : Int) := by omega
        have j2 : IntKind.i64.wrap ((j : Int) + 1 - 1) = (j : Int) := by rw [IntWalk.i64_in _ (by omega)]; omega
        have j3 : IntKind.i64.wrap (j : Int) = (j : Int) := IntWalk.i64_in _ (by omega)
        have j4 : decide ((0 : Int) < (j : Int) + 1) = true := decide_eq_true (by omega)
        have j5 : decide ((j : Int) + 1 > 0) = true := decide_eq_true (by omega)
        obtain ⟨h, hh⟩ : ∃ h, wr.heap.size = h := ⟨_, rfl⟩
        rw [hh] at D2
        have HD2 := Hd.mk D2
        clear D2
        go_wp2_with fail
        clear hh
        go_region_held3 (fun W => (W.cell? ⟨w.heap.size, 0, none⟩ = some (.int .i64 c.W) ∧ W.cell? ⟨w.heap.size, 1, none⟩ = some (.int .i64 c.H) ∧ W.cell? ⟨w.heap.size, 2, none⟩ = some (.int .i64 c.L) ∧ W.cell? ⟨w.heap.size, 3, none⟩ = some (.int .i64 c.D) ∧ W.cell? ⟨w.heap.size, 4, none⟩ = some (.int .i64 c.R) ∧ W.cell? ⟨w.heap.size, 5, none⟩ = some (.int .i64 c.I) ∧ W.cell? ⟨w.heap.size, 6, none⟩ = some (.int .i64 c.B) ∧ W.cell? ⟨w.heap.size, 7, none⟩ = some (.bool c.ws) ∧ W.cell? ⟨w.heap.size, 8, none⟩ = some (.bool c.cs) ∧ w.heap.size < W.heap.size ∧ Below w.heap.size w W) ∧ (W.cell? ⟨q, off + j * 2, none⟩ = some (.int .i64 n1) ∧ W.cell? ⟨q, off + j * 2 + 1, none⟩ = some (.int .i64 p1) ∧ q < W.heap.size) ∧ (W.cell? ⟨h, 0, none⟩ = some (.int .i64 n2) ∧ W.cell? ⟨h, 1, none⟩ = some (.int .i64 p2) ∧ h < W.heap.size)) (first | exact ⟨dS HD2.out.1, HD2.out.2⟩ | exact keepSLE (by assumption) (by assumption))
          (first | (go_at_call 96; (with_reducible refine (f96_is c n1 p1 k1 n2 p2 k2 HB1.out hp1' HB2.out hp2' HUP.out _).mono ?_); rintro e wq ⟨rfl, hbq⟩))
        rename_i D3
        clear HD2 j2 j3
        have S3 := D3.1
        clear D3
        go_wp2
        go_roundw
        case rel => exact ⟨j + 2, by omega, by go_num, S3⟩
        case measure => first | (simp [intOf]; done) | (simp [intOf]; omega)
    · go_wp2
      go_ret
      exact ⟨rfl, sB hS⟩

end Go.Proofs.Ytnbogjiddildaaa
