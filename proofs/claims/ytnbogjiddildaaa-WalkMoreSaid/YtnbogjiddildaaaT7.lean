/- Contracts of slices.Clip, turn.Straight and its reference. -/
import Derived.Test.YtnbogjiddildaaaT3
import Derived.Test.YtnbogjiddildaaaT5
import Derived.Test.YtnbogjiddildaaaL4
namespace Go.Proofs.Ytnbogjiddildaaa
open Go.RowKit
set_option linter.unusedSimpArgs false
set_option linter.unusedVariables false

theorem set7S {c : Cfg} {g : Nat} {w W : World} (hg : w.heap.size ≤ g) (hS : W.cell? ⟨g, 0, none⟩ = some (.int .i64 c.W) ∧ W.cell? ⟨g, 1, none⟩ = some (.int .i64 c.H) ∧ W.cell? ⟨g, 2, none⟩ = some (.int .i64 c.L) ∧ W.cell? ⟨g, 3, none⟩ = some (.int .i64 c.D) ∧ W.cell? ⟨g, 4, none⟩ = some (.int .i64 c.R) ∧ W.cell? ⟨g, 5, none⟩ = some (.int .i64 c.I) ∧ W.cell? ⟨g, 6, none⟩ = some (.int .i64 c.B) ∧ W.cell? ⟨g, 7, none⟩ = some (.bool c.ws) ∧ W.cell? ⟨g, 8, none⟩ = some (.bool c.cs) ∧ g < W.heap.size ∧ Below w.heap.size w W) : (W.setCell ⟨g, 7, none⟩ (.bool false)).cell? ⟨g, 0, none⟩ = some (.int .i64 c.W) ∧ (W.setCell ⟨g, 7, none⟩ (.bool false)).cell? ⟨g, 1, none⟩ = some (.int .i64 c.H) ∧ (W.setCell ⟨g, 7, none⟩ (.bool false)).cell? ⟨g, 2, none⟩ = some (.int .i64 c.L) ∧ (W.setCell ⟨g, 7, none⟩ (.bool false)).cell? ⟨g, 3, none⟩ = some (.int .i64 c.D) ∧ (W.setCell ⟨g, 7, none⟩ (.bool false)).cell? ⟨g, 4, none⟩ = some (.int .i64 c.R) ∧ (W.setCell ⟨g, 7, none⟩ (.bool false)).cell? ⟨g, 5, none⟩ = some (.int .i64 c.I) ∧ (W.setCell ⟨g, 7, none⟩ (.bool false)).cell? ⟨g, 6, none⟩ = some (.int .i64 c.B) ∧ (W.setCell ⟨g, 7, none⟩ (.bool false)).cell? ⟨g, 7, none⟩ = some (.bool false) ∧ (W.setCell ⟨g, 7, none⟩ (.bool false)).cell? ⟨g, 8, none⟩ = some (.bool c.cs) ∧ g < (W.setCell ⟨g, 7, none⟩ (.bool false)).heap.size ∧ Below w.heap.size w (W.setCell ⟨g, 7, none⟩ (.bool false)) := by
  obtain ⟨h0, h1, h2, h3, h4, h5, h6, h7, h8, hz, hB⟩ := hS
  refine ⟨?_, ?_, ?_, ?_, ?_, ?_, ?_, ?_, ?_, by simpa [World.setCell] using hz, bset hB hg _⟩
  all_goals first | exact World.cell?_setCell_same' _ _ _ (by rw [h7]; rfl) | (refine (World.cell?_setCell_other _ _ _ _ (fun e => ?_)).trans (by assumption); simp at e)

theorem f89_any (A : Option Addr) (n cap : Nat) (h : n ≤ cap) (w : World) : Calls Try.prog 89 #[.slice A n cap] w fun e w' => e = .returned (.slice A n n) ∧ w = w' := by
  go_enter Try.func89, Try.ntmps89
  go_wp2
  go_ret
  exact ⟨rfl, rfl⟩

theorem choose_xf' {c : Cfg} {a b : Int} (ch : Int) (ha : isB (xf c) a = true) (hb : isB (xf c) b = true) : chooseP (xf c) a b ch = (hdP (xf c) a b, true) := by
  unfold chooseP; rw [show optP (xf c) a b = optP (xf (xf c)) a b from rfl, opt_xf ha hb]
structure RelStr (c : Cfg) (a b : Int) (w : World) (i v : Value) (W : World) (pre : List Int) (m : Int) : Prop where
  vm : isB (xf c) m = true
  str : strP (xf c) a b = pre ++ strP (xf c) m b
  row : Row W (w.heap.size + 1) v pre
  hi : i = .int .i64 m
  s : W.cell? ⟨w.heap.size, 0, none⟩ = some (.int .i64 (xf c).W) ∧ W.cell? ⟨w.heap.size, 1, none⟩ = some (.int .i64 (xf c).H) ∧ W.cell? ⟨w.heap.size, 2, none⟩ = some (.int .i64 (xf c).L) ∧ W.cell? ⟨w.heap.size, 3, none⟩ = some (.int .i64 (xf c).D) ∧ W.cell? ⟨w.heap.size, 4, none⟩ = some (.int .i64 (xf c).R) ∧ W.cell? ⟨w.heap.size, 5, none⟩ = some (.int .i64 (xf c).I) ∧ W.cell? ⟨w.heap.size, 6, none⟩ = some (.int .i64 (xf c).B) ∧ W.cell? ⟨w.heap.size, 7, none⟩ = some (.bool (xf c).ws) ∧ W.cell? ⟨w.heap.size, 8, none⟩ = some (.bool (xf c).cs) ∧ w.heap.size < W.heap.size ∧ Below w.heap.size w W

set_option maxHeartbeats 1000000 in
set_option maxRecDepth 20000 in
theorem f66_no (c : Cfg) (a b : Int) (h : ¬ (isB (xf c) a = true ∧ isB (xf c) b = true)) (w : World) :
    Calls Try.prog 66 #[cv c, .int .i64 a, .int .i64 b] w fun e w' => ∃ A n cap, e = .returned (.slice A n cap) ∧ n = (strP (xf c) a b).length ∧ n ≤ cap ∧ Rd w' A (strP (xf c) a b) ∧ Below w.heap.size w w' := by
  go_enter Try.func66, Try.ntmps66
  go_wp2_with fail
  have S1 := s0 (xf c) w
  refine wp_loop_rounds 1 ?_
  rw [rounds_succ]
  go_wp2_with fail
  refine (f58_is (xf c) a b 0 (by omega) (by omega) 0 false (choose_no 0 h) _).mono ?_
  rintro e w1 ⟨rfl, hb1⟩
  have S2 := keepS (c := xf c) hb1 S1
  clear hb1 S1
  go_wp2
  go_ret
  exact ⟨none, 0, 0, rfl, by rw [str_no h]; rfl, by omega, by rw [str_no h]; exact fun hn => absurd hn (by simp), sB (c := xf c) S2⟩

set_option maxHeartbeats 1000000 in
set_option maxRecDepth 20000 in
theorem f66_yes (c : Cfg) (a b : Int) (h : isB (xf c) a = true ∧ isB (xf c) b = true) (w : World) :
    Calls Try.prog 66 #[cv c, .int .i64 a, .int .i64 b] w fun e w' => ∃ A n cap, e = .returned (.slice A n cap) ∧ n = (strP (xf c) a b).length ∧ n ≤ cap ∧ Rd w' A (strP (xf c) a b) ∧ Below w.heap.size w w' := by
  obtain ⟨ha, hb⟩ := h
  go_enter Try.func66, Try.ntmps66
  go_wp2_with fail
  have S1 := s0 (xf c) w
  go_loopw [1, 7] (fun i v W => ∃ pre m, RelStr c a b w i v W pre m) (fun i _ _ => (farP (xf c) (intOf i) b).toNat)
  case atStart => exact ⟨[], a, ha, by simp, Row.nil_ _ _, rfl, S1⟩
  case round =>
    obtain ⟨pre, m, hm, hpre, hrow, rfl, hS⟩ := hrel
    clear S1
    have HR := Hd.mk hrow
    clear hrow
    have hl := str_len (c := xf c) ha hb
    have hf := far_bd (c := xf c) ha hb
    rw [hpre, List.length_append] at hl
    have hlp : pre.length ≤ 1000000 := by omega
    clear hl hf
    have hN := near_x (c := xf c) hm hb
    obtain ⟨p0, p4, loc, m2, hb2, hstep⟩ := hN
    have HP2 := Hd.mk hb2
    have HPS := Hd.mk hpre
    have HM := Hd.mk hm
    have hch := choose_xf' (c := c) (a := m) (b := b) 0 hm hb
    obtain ⟨p, HP⟩ : ∃ z, Hd (hdP (xf c) m b = z) := ⟨_, ⟨rfl⟩⟩
    rw [HP.out] at hch p0 p4 loc
    have HCH := Hd.mk hch
    clear hb2 hpre hm hch
    by_cases he : m = b
    · have hp : p = 0 := loc.2 he
      have HE := Hd.mk he
      subst hp
      clear loc p0 p4 he hstep
      go_wp2_with fail
      refine (f58_is (xf c) m b 0 (by omega) (by omega) 0 true HCH.out _).mono ?_
      rintro e w2 ⟨rfl, hb1⟩
      have S2 := keepS (c := xf c) hb1 hS
      have HR1 := Hd.mk (HR.out.below hb1)
      have hz1 := S2.2.2.2.2.2.2.2.2.2.1
      clear hb1 hS HR
      go_wp2_with (at_builtin; refine wpList_app1 rfl (.tmp 20) (.tmp 22) rfl (w.heap.size + 1) _ _ rfl _ rfl (0 : Int) (HR1.out.alloc _) (by simp) (by omega) (by simp; omega) ?_; intro v' W2 hr2 hg2; have S3 := keepG (c := xf c) hg2 (HR1.out.alloc _) (by omega) (by omega) (allocS (c := xf c) _ S2); have HR2 := Hd.mk hr2; clear hr2 hg2 S2 HR1)
      obtain ⟨A, cap, rfl, hcap, hrd⟩ := HR2.out.rd
      refine (f89_any A _ cap hcap _).mono ?_
      rintro e w3 ⟨rfl, rfl⟩
      have hstr : strP (xf c) a b = pre ++ [0] := by rw [HPS.out, HE.out, str_here (by rw [← HE.out]; exact HM.out)]
      go_wp2
      go_ret
      exact ⟨A, _, _, rfl, by rw [hstr]; simp, Nat.le_refl _, by rw [hstr]; exact hrd, sB (c := xf c) S3⟩
    · have hp : (p == 0) = false := by rw [beq_eq_false_iff_ne]; exact fun h => he (loc.1 h)
      have HF := Hd.mk (hstep he)
      have HST := Hd.mk (str_step (c := xf c) HM.out hb he HP2.out)
      rw [HP.out] at HST
      have HE := Hd.mk he
      clear loc p0 p4 he hstep
      go_wp2_with fail
      refine (f58_is (xf c) m b 0 (by omega) (by omega) p true HCH.out _).mono ?_
      rintro e w2 ⟨rfl, hb1⟩
      have S2 := keepS (c := xf c) hb1 hS
      have HR1 := Hd.mk (HR.out.below hb1)
      have hz1 := S2.2.2.2.2.2.2.2.2.2.1
      clear hb1 hS HR
      go_wp2_with (at_builtin; refine wpList_app1 rfl (.tmp 20) (.tmp 22) rfl (w.heap.size + 1) _ _ rfl _ rfl p (HR1.out.alloc _) (by simp) (by omega) (by simp; omega) ?_; intro v' W2 hr2 hg2; have S3 := keepG (c := xf c) hg2 (HR1.out.alloc _) (by omega) (by omega) (allocS (c := xf c) _ S2); have HR2 := Hd.mk hr2; clear hr2 hg2 S2 HR1)
      refine (f34_is (xf c) m p m2 true (by rw [← HP.out]; exact HP2.out) _).mono ?_
      rintro e w3 ⟨rfl, hb3⟩
      have S4 := keepS (c := xf c) hb3 S3
      have HR3 := Hd.mk (HR2.out.below hb3)
      clear hb3 S3 HR2
      go_wp2
      go_roundw
      case rel => exact ⟨pre ++ [p], m2, (step_of HP2.out).vm, by rw [HPS.out, HST.out]; simp, HR3.out, rfl, S4⟩
      case measure =>
        have h0 := far_bd (c := xf c) (step_of HP2.out).vm hb
        have h1 := HF.out
        have h2 := (far_bd (c := xf c) HM.out hb).1
        simp only [intOf]; omega

theorem f66_any (c : Cfg) (a b : Int) (w : World) : Calls Try.prog 66 #[cv c, .int .i64 a, .int .i64 b] w fun e w' => ∃ A n cap, e = .returned (.slice A n cap) ∧ n = (strP (xf c) a b).length ∧ n ≤ cap ∧ Rd w' A (strP (xf c) a b) ∧ Below w.heap.size w w' := by
  by_cases h : isB (xf c) a = true ∧ isB (xf c) b = true
  · exact f66_yes c a b h w
  · exact f66_no c a b h w

set_option maxHeartbeats 1000000 in
set_option maxRecDepth 20000 in
theorem f67_no (c : Cfg) (a b : Int) (h : ¬ (isB (xf c) a = true ∧ isB (xf c) b = true)) (w : World) :
    Calls Try.prog 67 #[cv c, .int .i64 a, .int .i64 b] w fun e w' => ∃ A n cap, e = .returned (.slice A n cap) ∧ n = (strP (xf c) a b).length ∧ n ≤ cap ∧ Rd w' A (strP (xf c) a b) ∧ Below w.heap.size w w' := by
  go_enter Try.func67, Try.ntmps67
  go_wp2_with fail
  have S1 := s0 (xf c) w
  refine wp_loop_rounds 1 ?_
  rw [rounds_succ]
  go_wp2_with fail
  refine (f61_any (xf c) a b _).mono ?_
  rintro e w1 ⟨v, rfl, hr, hb1⟩
  have S2 := keepS (c := xf c) hb1 S1
  rw [opt_no h] at hr
  obtain ⟨A, cap, rfl, hcap, hrd⟩ := hr.rd
  clear hb1 S1 hr hrd
  go_wp2
  go_ret
  exact ⟨none, 0, 0, rfl, by rw [str_no h]; rfl, by omega, by rw [str_no h]; exact fun hn => absurd hn (by simp), sB (c := xf c) S2⟩

end Go.Proofs.Ytnbogjiddildaaa
