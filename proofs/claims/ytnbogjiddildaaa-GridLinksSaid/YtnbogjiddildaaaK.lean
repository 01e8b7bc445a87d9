/- The walk of the law GridLinks. -/
import Derived.Test.YtnbogjiddildaaaJ
namespace Go.Proofs.Ytnbogjiddildaaa
open Go.RowKit
set_option linter.unusedSimpArgs false
set_option linter.unusedVariables false

structure RelLaw3 (c : Cfg) (A B : Option Addr) (ca cb : Nat) (w : World) (i : Value) (W : World) (k : Nat) : Prop where
  kn : k ≤ (linksP c).length
  hi : i = .int .i64 (k : Int)
  ra : Row2 W 0 (.slice A (linksP c).length ca) (linksP c)
  rb : Row2 W 0 (.slice B (linksP c).length cb) (linksP c)
  b : Below w.heap.size w W

set_option maxHeartbeats 1000000 in
set_option maxRecDepth 20000 in
theorem law3_w (c : Cfg) (n : Int) (h : 16 < c.W) (w : World) :
    Calls Try.prog 3 #[cv c, .int .i64 n] w fun e w' => e = .returned (.bool true) ∧ Below w.heap.size w w' := by
  go_enter Try.func3, Try.ntmps3
  go_wp2_with fail
  refine (f25_any _).mono ?_
  rintro e w1 ⟨rfl, hb1⟩
  have S1 := keepS hb1 (s0 c w)
  clear hb1
  go_wp2
  go_ret
  exact ⟨rfl, sB S1⟩

set_option maxHeartbeats 1000000 in
set_option maxRecDepth 20000 in
theorem law3_h (c : Cfg) (n : Int) (h : ¬ 16 < c.W) (h2 : 16 < c.H) (w : World) :
    Calls Try.prog 3 #[cv c, .int .i64 n] w fun e w' => e = .returned (.bool true) ∧ Below w.heap.size w w' := by
  go_enter Try.func3, Try.ntmps3
  go_wp2_with fail
  refine (f25_any _).mono ?_
  rintro e w1 ⟨rfl, hb1⟩
  have S1 := keepS hb1 (s0 c w)
  clear hb1
  go_wp2
  go_ret
  exact ⟨rfl, sB S1⟩

set_option maxHeartbeats 1000000 in
set_option maxRecDepth 20000 in
theorem law3_go (c : Cfg) (n : Int) (h : ¬ 16 < c.W) (h2 : ¬ 16 < c.H) (w : World) :
    Calls Try.prog 3 #[cv c, .int .i64 n] w fun e w' => e = .returned (.bool true) ∧ Below w.heap.size w w' := by
  go_enter Try.func3, Try.ntmps3
  go_wp2_with fail
  refine (f25_any _).mono ?_
  rintro e w1 ⟨rfl, hb1⟩
  have S1 := keepS hb1 (s0 c w)
  clear hb1
  go_wp2_with fail
  have HS := Hd.mk S1
  clear S1
  go_region_held3 (fun W => W.cell? ⟨w.heap.size, 0, none⟩ = some (.int .i64 c.W) ∧ W.cell? ⟨w.heap.size, 1, none⟩ = some (.int .i64 c.H) ∧ W.cell? ⟨w.heap.size, 2, none⟩ = some (.int .i64 c.L) ∧ W.cell? ⟨w.heap.size, 3, none⟩ = some (.int .i64 c.D) ∧ W.cell? ⟨w.heap.size, 4, none⟩ = some (.int .i64 c.R) ∧ W.cell? ⟨w.heap.size, 5, none⟩ = some (.int .i64 c.I) ∧ W.cell? ⟨w.heap.size, 6, none⟩ = some (.int .i64 c.B) ∧ W.cell? ⟨w.heap.size, 7, none⟩ = some (.bool c.ws) ∧ W.cell? ⟨w.heap.size, 8, none⟩ = some (.bool c.cs) ∧ w.heap.size < W.heap.size ∧ Below w.heap.size w W) (first | exact dS HS.out | exact keepS (by assumption) (by assumption))
    (first | (go_at_call 26; refine (f26_any c _).mono ?_; rintro e wa ⟨va, rfl, hra, hba⟩) | (go_at_call 27; refine (f27_any c _).mono ?_; rintro e wb ⟨vb, rfl, hrb, hbb⟩))
  rename_i S2
  have HA := Hd.mk ((hra.below hbb).mono (Nat.zero_le _))
  have HB := Hd.mk (hrb.mono (Nat.zero_le _))
  obtain ⟨A, ca, rfl, hca, hma, -⟩ := HA.out.rd
  obtain ⟨B, cb, rfl, hcb, hmb, -⟩ := HB.out.rd
  unfold maxLen at hma hmb
  have hlen : (linksP c).length ≤ 16384 := by unfold linksP; have := linksTo_len c (nodes c).toNat; have := nodes_bd c; omega
  have hpl : (portsP c n).length ≤ 4 := plP_len c n 4
  clear hra hba hrb hbb HS
  go_wp2_with fail
  have HS := Hd.mk S2
  clear S2
  go_region_held3 (fun W => W.cell? ⟨w.heap.size, 0, none⟩ = some (.int .i64 c.W) ∧ W.cell? ⟨w.heap.size, 1, none⟩ = some (.int .i64 c.H) ∧ W.cell? ⟨w.heap.size, 2, none⟩ = some (.int .i64 c.L) ∧ W.cell? ⟨w.heap.size, 3, none⟩ = some (.int .i64 c.D) ∧ W.cell? ⟨w.heap.size, 4, none⟩ = some (.int .i64 c.R) ∧ W.cell? ⟨w.heap.size, 5, none⟩ = some (.int .i64 c.I) ∧ W.cell? ⟨w.heap.size, 6, none⟩ = some (.int .i64 c.B) ∧ W.cell? ⟨w.heap.size, 7, none⟩ = some (.bool c.ws) ∧ W.cell? ⟨w.heap.size, 8, none⟩ = some (.bool c.cs) ∧ w.heap.size < W.heap.size ∧ Below w.heap.size w W) (first | exact dS HS.out | exact keepS (by assumption) (by assumption))
    (first | (go_at_call 29; refine (f29_any c n _).mono ?_; rintro e wc ⟨vc, rfl, hrc, hbc⟩; obtain ⟨C, cc, rfl, hcc, hrdc⟩ := hrc.rd; have HC := Hd.mk hrdc; clear hrc hrdc) | (go_at_call 30; refine (f30_any c n _).mono ?_; rintro e wd ⟨vd, rfl, hrd, hbd⟩; obtain ⟨D, cd, rfl, hcd, hrdd⟩ := hrd.rd; have HC2 := Hd.mk (Rd.below HC.out hbd); have HD := Hd.mk hrdd; clear hrd hrdd) | (go_at_call 28; refine (f28_eq C D cc cd _ (by omega) _ HC2.out HD.out).mono ?_; rintro e we ⟨rfl, hbe⟩))
  rename_i S3
  have HA3 := Hd.mk (((HA.out.drew.below hbc).below hbd).below hbe)
  have HB3 := Hd.mk (((HB.out.drew.below hbc).below hbd).below hbe)
  have HE := Hd.mk (sB S3)
  clear HA HB HC HC2 HD HS S3 hbc hbd hbe
  go_wp2_with fail
  go_loopw [7] (fun i W => ∃ k : Nat, RelLaw3 c A B ca cb w i W k) (fun i _ => (linksP c).length - (intOf i).toNat)
  case atStart => exact ⟨0, by omega, rfl, HA3.out, HB3.out, HE.out⟩
  case round =>
    obtain ⟨k, hk, rfl, hra, hrb, hbw⟩ := hrel
    have RA := Hd.mk hra
    have RB := Hd.mk hrb
    have HW := Hd.mk hbw
    clear hra hrb hbw HA3 HB3 HE
    by_cases hlt : k < (linksP c).length
    · obtain ⟨x, HX⟩ : ∃ x, Hd ((linksP c)[k]? = some x) := ⟨(linksP c)[k], ⟨List.getElem?_eq_getElem hlt⟩⟩
      obtain ⟨ga, oa, rfl, hga, hca2⟩ := RA.out.at (by omega)
      obtain ⟨gb, ob, rfl, hgb, hcb2⟩ := RB.out.at (by omega)
      obtain ⟨hx1, hx2⟩ := hca2 k x HX.out
      obtain ⟨hy1, hy2⟩ := hcb2 k x HX.out
      clear hca2 hcb2
      have hi1 : (k : Int) < ((linksP c).length : Int) := by omega
      have hq1 := eq30_same x
      have hq2 := neq30_same x
      go_wp2_with fail
      go_quiet (fail)
      go_wp2
      go_roundw
      case rel => exact ⟨k + 1, by omega, by go_num, RA.out, RB.out, bdrewN HW.out _⟩
      case measure => simp [intOf]; omega
    · go_wp2
      go_ret
      exact ⟨rfl, HW.out⟩

theorem law3_calls (c : Cfg) (n : Int) (_ : -9223372036854775808 ≤ n ∧ n ≤ 9223372036854775807) (w : World) :
    Calls Try.prog 3 #[cv c, .int .i64 n] w fun e w' => e = .returned (.bool true) ∧ Below w.heap.size w w' := by
  by_cases h : 16 < c.W
  · exact law3_w c n h w
  · by_cases h2 : 16 < c.H
    · exact law3_h c n h h2 w
    · exact law3_go c n h h2 w

end Go.Proofs.Ytnbogjiddildaaa
