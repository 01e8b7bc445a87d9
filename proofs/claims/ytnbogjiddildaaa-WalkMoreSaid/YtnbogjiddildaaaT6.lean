/- Lists of one or two cells beside the config; the walk of the law TurnNearer. -/
import Derived.Test.YtnbogjiddildaaaT3
import Derived.Test.YtnbogjiddildaaaT4
import Derived.Test.YtnbogjiddildaaaL4
namespace Go.Proofs.Ytnbogjiddildaaa
open Go.RowKit
set_option linter.unusedSimpArgs false
set_option linter.unusedVariables false

theorem keepL1 {q off : Nat} {x : Int} {W W' : World} (hb : Below W.heap.size W W') (H : W.cell? ⟨q, off, none⟩ = some (.int .i64 x) ∧ q < W.heap.size) : W'.cell? ⟨q, off, none⟩ = some (.int .i64 x) ∧ q < W'.heap.size := by
  obtain ⟨h0, hg⟩ := H
  have hs := hb.size
  refine ⟨?_, by omega⟩
  all_goals rw [hb.cell (by exact hg)]; assumption
theorem keepSL1 {c : Cfg} {g : Nat} {q off : Nat} {x : Int} {w W W' : World} (hb : Below W.heap.size W W') (H : (W.cell? ⟨g, 0, none⟩ = some (.int .i64 c.W) ∧ W.cell? ⟨g, 1, none⟩ = some (.int .i64 c.H) ∧ W.cell? ⟨g, 2, none⟩ = some (.int .i64 c.L) ∧ W.cell? ⟨g, 3, none⟩ = some (.int .i64 c.D) ∧ W.cell? ⟨g, 4, none⟩ = some (.int .i64 c.R) ∧ W.cell? ⟨g, 5, none⟩ = some (.int .i64 c.I) ∧ W.cell? ⟨g, 6, none⟩ = some (.int .i64 c.B) ∧ W.cell? ⟨g, 7, none⟩ = some (.bool c.ws) ∧ W.cell? ⟨g, 8, none⟩ = some (.bool c.cs) ∧ g < W.heap.size ∧ Below w.heap.size w W) ∧ (W.cell? ⟨q, off, none⟩ = some (.int .i64 x) ∧ q < W.heap.size)) : (W'.cell? ⟨g, 0, none⟩ = some (.int .i64 c.W) ∧ W'.cell? ⟨g, 1, none⟩ = some (.int .i64 c.H) ∧ W'.cell? ⟨g, 2, none⟩ = some (.int .i64 c.L) ∧ W'.cell? ⟨g, 3, none⟩ = some (.int .i64 c.D) ∧ W'.cell? ⟨g, 4, none⟩ = some (.int .i64 c.R) ∧ W'.cell? ⟨g, 5, none⟩ = some (.int .i64 c.I) ∧ W'.cell? ⟨g, 6, none⟩ = some (.int .i64 c.B) ∧ W'.cell? ⟨g, 7, none⟩ = some (.bool c.ws) ∧ W'.cell? ⟨g, 8, none⟩ = some (.bool c.cs) ∧ g < W'.heap.size ∧ Below w.heap.size w W') ∧ (W'.cell? ⟨q, off, none⟩ = some (.int .i64 x) ∧ q < W'.heap.size) := ⟨keepS hb H.1, keepL1 hb H.2⟩
theorem keepL2 {q off : Nat} {x y : Int} {W W' : World} (hb : Below W.heap.size W W') (H : W.cell? ⟨q, off, none⟩ = some (.int .i64 x) ∧ W.cell? ⟨q, off + 1, none⟩ = some (.int .i64 y) ∧ q < W.heap.size) : W'.cell? ⟨q, off, none⟩ = some (.int .i64 x) ∧ W'.cell? ⟨q, off + 1, none⟩ = some (.int .i64 y) ∧ q < W'.heap.size := by
  obtain ⟨h0, h1, hg⟩ := H
  have hs := hb.size
  refine ⟨?_, ?_, by omega⟩
  all_goals rw [hb.cell (by exact hg)]; assumption
theorem keepSL2 {c : Cfg} {g : Nat} {q off : Nat} {x y : Int} {w W W' : World} (hb : Below W.heap.size W W') (H : (W.cell? ⟨g, 0, none⟩ = some (.int .i64 c.W) ∧ W.cell? ⟨g, 1, none⟩ = some (.int .i64 c.H) ∧ W.cell? ⟨g, 2, none⟩ = some (.int .i64 c.L) ∧ W.cell? ⟨g, 3, none⟩ = some (.int .i64 c.D) ∧ W.cell? ⟨g, 4, none⟩ = some (.int .i64 c.R) ∧ W.cell? ⟨g, 5, none⟩ = some (.int .i64 c.I) ∧ W.cell? ⟨g, 6, none⟩ = some (.int .i64 c.B) ∧ W.cell? ⟨g, 7, none⟩ = some (.bool c.ws) ∧ W.cell? ⟨g, 8, none⟩ = some (.bool c.cs) ∧ g < W.heap.size ∧ Below w.heap.size w W) ∧ (W.cell? ⟨q, off, none⟩ = some (.int .i64 x) ∧ W.cell? ⟨q, off + 1, none⟩ = some (.int .i64 y) ∧ q < W.heap.size)) : (W'.cell? ⟨g, 0, none⟩ = some (.int .i64 c.W) ∧ W'.cell? ⟨g, 1, none⟩ = some (.int .i64 c.H) ∧ W'.cell? ⟨g, 2, none⟩ = some (.int .i64 c.L) ∧ W'.cell? ⟨g, 3, none⟩ = some (.int .i64 c.D) ∧ W'.cell? ⟨g, 4, none⟩ = some (.int .i64 c.R) ∧ W'.cell? ⟨g, 5, none⟩ = some (.int .i64 c.I) ∧ W'.cell? ⟨g, 6, none⟩ = some (.int .i64 c.B) ∧ W'.cell? ⟨g, 7, none⟩ = some (.bool c.ws) ∧ W'.cell? ⟨g, 8, none⟩ = some (.bool c.cs) ∧ g < W'.heap.size ∧ Below w.heap.size w W') ∧ (W'.cell? ⟨q, off, none⟩ = some (.int .i64 x) ∧ W'.cell? ⟨q, off + 1, none⟩ = some (.int .i64 y) ∧ q < W'.heap.size) := ⟨keepS hb H.1, keepL2 hb H.2⟩

set_option maxHeartbeats 1000000 in
set_option maxRecDepth 20000 in
theorem law15_go (c : Cfg) (a b : Int) (w : World) :
    Calls Try.prog 15 #[cv c, .int .i64 a, .int .i64 b] w fun e w' => e = .returned (.bool true) ∧ Below w.heap.size w w' := by
  go_enter Try.func15, Try.ntmps15
  go_wp2_with fail
  refine (f57_any _).mono ?_
  rintro e w1 ⟨rfl, hb1⟩
  have S1 := keepS hb1 (s0 c w)
  have F1 := keepF hb1 (by simp) (fz0 c w)
  clear hb1
  go_wp2_with fail
  refine (f31_sm c _).mono ?_
  rintro e w2 ⟨s, hsm, rfl, hb2⟩
  have S2 := keepS hb2 S1
  have F2 := keepF hb2 S1.2.2.2.2.2.2.2.2.2.1 F1
  clear hb2 S1 F1
  go_wp2_with fail
  have S3 := storesS (s := s) (Nat.le_refl _) S2
  clear S2 F2
  generalize (((((((((w2.setCell ⟨w.heap.size, 0, none⟩ (.int .i64 s.W)).setCell ⟨w.heap.size, 1, none⟩ (.int .i64 s.H)).setCell ⟨w.heap.size, 2, none⟩ (.int .i64 s.L)).setCell ⟨w.heap.size, 3, none⟩ (.int .i64 s.D)).setCell ⟨w.heap.size, 4, none⟩ (.int .i64 s.R)).setCell ⟨w.heap.size, 5, none⟩ (.int .i64 s.I)).setCell ⟨w.heap.size, 6, none⟩ (.int .i64 s.B)).setCell ⟨w.heap.size, 7, none⟩ (.bool s.ws)).setCell ⟨w.heap.size, 8, none⟩ (.bool s.cs)) = w3 at S3 ⊢
  obtain ⟨u, HU⟩ : ∃ z, Hd (nodeP s a = z) := ⟨_, ⟨rfl⟩⟩
  have HBu : Hd (isB s u = true) := ⟨by have h := nodeP_is hsm.ok a; rw [HU.out] at h; exact h⟩
  obtain ⟨v, HV⟩ : ∃ z, Hd (nodeP s b = z) := ⟨_, ⟨rfl⟩⟩
  have HBv : Hd (isB s v = true) := ⟨by have h := nodeP_is hsm.ok b; rw [HV.out] at h; exact h⟩
  go_wp2_with fail
  refine (f32_is s a u hsm.ok HU.out _).mono ?_
  rintro e w4 ⟨rfl, hb4⟩
  have S4 := keepS hb4 S3
  clear hb4 S3
  go_wp2_with fail
  refine (f32_is s b v hsm.ok HV.out _).mono ?_
  rintro e w5 ⟨rfl, hb5⟩
  have S5 := keepS hb5 S4
  clear hb5 S4
  go_wp2_with fail
  refine (f60_any s u v _).mono ?_
  rintro e w6 ⟨r, rfl, hr, hb6⟩
  have S6 := keepS hb6 S5
  clear hb6 S5
  have hfb := far_bd HBu.out HBv.out
  obtain ⟨d, HD⟩ : ∃ z, Hd (farP s u v = z) := ⟨_, ⟨rfl⟩⟩
  rw [HD.out] at hfb
  obtain ⟨d1, HE1⟩ : ∃ z, Hd (d - 1 = z) := ⟨_, ⟨rfl⟩⟩
  have hwd : IntKind.i64.wrap (d - 1) = d1 := by rw [IntWalk.i64_in _ (by omega)]; exact HE1.out
  have hN := near_x HBu.out HBv.out
  rcases opt_is HBu.out HBv.out with ⟨ho, hno⟩ | ⟨ho, hd, hws, hlx, hly⟩
  · rw [ho] at hr
    clear hno ho
    obtain ⟨x, HX⟩ : ∃ z, Hd (hdP s u v = z) := ⟨_, ⟨rfl⟩⟩
    rw [HX.out] at hr hN
    obtain ⟨A, cap, rfl, hcap, hrd⟩ := hr.rd
    clear hr
    obtain ⟨q, off, rfl, hg, hc⟩ := hrd (by simp)
    have hx := hc 0 x rfl
    simp only [Nat.add_zero] at hx
    have T6 := And.intro S6 (And.intro hx hg)
    clear S6 hc hrd hx hg
    obtain ⟨x0, x4, xl, m, hmm, hfm⟩ := hN
    have Hm := Hd.mk hmm
    clear hmm
    by_cases he : u = v
    · have hq : x = 0 := xl.2 he
      subst he hq
      clear hfm xl
      go_wp2_with fail
      refine wp_loop_rounds 2 ?_
      rw [rounds_succ]
      go_wp2_with fail
      have HS7 := Hd.mk T6
      clear T6
      go_region_held3 (fun W => (W.cell? ⟨w.heap.size, 0, none⟩ = some (.int .i64 s.W) ∧ W.cell? ⟨w.heap.size, 1, none⟩ = some (.int .i64 s.H) ∧ W.cell? ⟨w.heap.size, 2, none⟩ = some (.int .i64 s.L) ∧ W.cell? ⟨w.heap.size, 3, none⟩ = some (.int .i64 s.D) ∧ W.cell? ⟨w.heap.size, 4, none⟩ = some (.int .i64 s.R) ∧ W.cell? ⟨w.heap.size, 5, none⟩ = some (.int .i64 s.I) ∧ W.cell? ⟨w.heap.size, 6, none⟩ = some (.int .i64 s.B) ∧ W.cell? ⟨w.heap.size, 7, none⟩ = some (.bool s.ws) ∧ W.cell? ⟨w.heap.size, 8, none⟩ = some (.bool s.cs) ∧ w.heap.size < W.heap.size ∧ Below w.heap.size w W) ∧ (W.cell? ⟨q, off, none⟩ = some (.int .i64 0) ∧ q < W.heap.size)) (first | exact ⟨dS HS7.out.1, HS7.out.2⟩ | exact keepSL1 (by assumption) (by assumption))
        (first | (go_at_call 34; (with_reducible refine (f34_is s u 0 m true Hm.out _).mono ?_); rintro e wq ⟨rfl, hbq⟩))
      rename_i T7
      clear HS7
      go_wp2_with fail
      have HT8 := Hd.mk T7
      have HS0 := T7.1
      have HE0 := T7.2
      have HC8 := HS0.2.2.2.2.2.2.2.1
      clear T7
      go_quiet (fail)
      have T8 := And.intro (drewNS nq HS0) HE0
      clear HS0 HE0 HT8
      go_wp2
      rw [rounds_succ]
      go_wp2_with fail
      rcases hws : s.ws with _ | _
      all_goals
        have HB0 := Hd.mk T8.1
        rw [hws] at T8
        rw [hws] at HC8
        have HT9 := Hd.mk T8
        have HS0 := T8.1
        have HE0 := T8.2
        have HC9 := HS0.2.2.2.2.2.2.2.1
        clear T8
        go_quiet (fail)
        have T9 := drewNS nq HB0.out
        clear HS0 HE0 HT9
        go_wp2
        go_ret
        exact ⟨rfl, sB T9⟩
    · have he1 : (u == v) = false := by rw [beq_eq_false_iff_ne]; exact he
      have he2 : (u != v) = true := bne_iff_ne.2 he
      have Hmd : Hd (farP s m v = d1) := ⟨by rw [hfm he, HD.out, HE1.out]⟩
      have hqx : (x == 0) = false := by rw [beq_eq_false_iff_ne]; exact fun h => he (xl.1 h)
      clear hfm xl
      have HE := Hd.mk he
      clear he
      go_wp2_with fail
      refine wp_loop_rounds 2 ?_
      rw [rounds_succ]
      go_wp2_with fail
      have HS7 := Hd.mk T6
      clear T6
      go_region_held3 (fun W => (W.cell? ⟨w.heap.size, 0, none⟩ = some (.int .i64 s.W) ∧ W.cell? ⟨w.heap.size, 1, none⟩ = some (.int .i64 s.H) ∧ W.cell? ⟨w.heap.size, 2, none⟩ = some (.int .i64 s.L) ∧ W.cell? ⟨w.heap.size, 3, none⟩ = some (.int .i64 s.D) ∧ W.cell? ⟨w.heap.size, 4, none⟩ = some (.int .i64 s.R) ∧ W.cell? ⟨w.heap.size, 5, none⟩ = some (.int .i64 s.I) ∧ W.cell? ⟨w.heap.size, 6, none⟩ = some (.int .i64 s.B) ∧ W.cell? ⟨w.heap.size, 7, none⟩ = some (.bool s.ws) ∧ W.cell? ⟨w.heap.size, 8, none⟩ = some (.bool s.cs) ∧ w.heap.size < W.heap.size ∧ Below w.heap.size w W) ∧ (W.cell? ⟨q, off, none⟩ = some (.int .i64 x) ∧ q < W.heap.size)) (first | exact ⟨dS HS7.out.1, HS7.out.2⟩ | exact keepSL1 (by assumption) (by assumption))
        (first | (go_at_call 34; (with_reducible refine (f34_is s u x m true Hm.out _).mono ?_); rintro e wq ⟨rfl, hbq⟩))
      rename_i T7
      clear HS7
      go_wp2_with fail
      have HS8 := Hd.mk T7
      clear T7
      go_region_held3 (fun W => (W.cell? ⟨w.heap.size, 0, none⟩ = some (.int .i64 s.W) ∧ W.cell? ⟨w.heap.size, 1, none⟩ = some (.int .i64 s.H) ∧ W.cell? ⟨w.heap.size, 2, none⟩ = some (.int .i64 s.L) ∧ W.cell? ⟨w.heap.size, 3, none⟩ = some (.int .i64 s.D) ∧ W.cell? ⟨w.heap.size, 4, none⟩ = some (.int .i64 s.R) ∧ W.cell? ⟨w.heap.size, 5, none⟩ = some (.int .i64 s.I) ∧ W.cell? ⟨w.heap.size, 6, none⟩ = some (.int .i64 s.B) ∧ W.cell? ⟨w.heap.size, 7, none⟩ = some (.bool s.ws) ∧ W.cell? ⟨w.heap.size, 8, none⟩ = some (.bool s.cs) ∧ w.heap.size < W.heap.size ∧ Below w.heap.size w W) ∧ (W.cell? ⟨q, off, none⟩ = some (.int .i64 x) ∧ q < W.heap.size)) (first | exact ⟨dS HS8.out.1, HS8.out.2⟩ | exact keepSL1 (by assumption) (by assumption))
        (first | (go_at_call 33; (with_reducible refine (f33_is s m v d1 Hmd.out _).mono ?_); rintro e wq ⟨rfl, hbq⟩) | (go_at_call 33; (with_reducible refine (f33_is s u v d HD.out _).mono ?_); rintro e wq ⟨rfl, hbq⟩))
      rename_i T8
      clear HS8
      go_wp2
      rw [rounds_succ]
      go_wp2_with fail
      rcases hws : s.ws with _ | _
      all_goals
        have HB0 := Hd.mk T8.1
        rw [hws] at T8
        have HT9 := Hd.mk T8
        have HS0 := T8.1
        have HE0 := T8.2
        have HC9 := HS0.2.2.2.2.2.2.2.1
        clear T8
        go_quiet (fail)
        have T9 := drewNS nq HB0.out
        clear HS0 HE0 HT9
        go_wp2
        go_ret
        exact ⟨rfl, sB T9⟩
  · rw [ho] at hr
    clear ho
    have hN2 := near_y HBu.out HBv.out hlx hly
    rw [hd] at hN
    obtain ⟨y, HY⟩ : ∃ z, Hd (sgn (u / s.W) (v / s.W) 3 4 = z) := ⟨_, ⟨rfl⟩⟩
    have hy3 : (1 != y) = true := by
      rw [bne_iff_ne, ← HY.out]; unfold sgn; repeat' split
      all_goals omega
    have he : ¬ u = v := fun h => hly (by rw [h])
    have he1 : (u == v) = false := by rw [beq_eq_false_iff_ne]; exact he
    have he2 : (u != v) = true := bne_iff_ne.2 he
    rw [HY.out] at hr hN2
    obtain ⟨A, cap, rfl, hcap, hrd⟩ := hr.rd
    clear hr
    obtain ⟨q, off, rfl, hg, hc⟩ := hrd (by simp)
    have hx := hc 0 1 rfl
    have hy := hc 1 y rfl
    simp only [Nat.add_zero] at hx
    have T6 := And.intro S6 (And.intro hx (And.intro hy hg))
    have HWS := Hd.mk hws
    clear S6 hc hrd hx hy hg hlx hly hd hws
    obtain ⟨x, HX1⟩ : ∃ z, Hd ((1 : Int) = z) := ⟨_, ⟨rfl⟩⟩
    obtain ⟨x0, x4, xl, m, hmm, hfm⟩ := hN
    have Hm := Hd.mk hmm
    clear hmm
    obtain ⟨y0, y4, yl, m2, hmm2, hfm2⟩ := hN2
    have Hm2 := Hd.mk hmm2
    clear hmm2
    have Hmd : Hd (farP s m v = d1) := ⟨by rw [hfm he, HD.out, HE1.out]⟩
    have hqx : ((1 : Int) == 0) = false := by rw [beq_eq_false_iff_ne]; exact fun h => he (xl.1 h)
    clear hfm xl
    have Hm2d : Hd (farP s m2 v = d1) := ⟨by rw [hfm2 he, HD.out, HE1.out]⟩
    have hqy : (y == 0) = false := by rw [beq_eq_false_iff_ne]; exact fun h => he (yl.1 h)
    clear hfm2 yl
    have HE := Hd.mk he
    clear he
    go_wp2_with fail
    refine wp_loop_rounds 3 ?_
    rw [rounds_succ]
    go_wp2_with fail
    have HS7 := Hd.mk T6
    clear T6
    go_region_held3 (fun W => (W.cell? ⟨w.heap.size, 0, none⟩ = some (.int .i64 s.W) ∧ W.cell? ⟨w.heap.size, 1, none⟩ = some (.int .i64 s.H) ∧ W.cell? ⟨w.heap.size, 2, none⟩ = some (.int .i64 s.L) ∧ W.cell? ⟨w.heap.size, 3, none⟩ = some (.int .i64 s.D) ∧ W.cell? ⟨w.heap.size, 4, none⟩ = some (.int .i64 s.R) ∧ W.cell? ⟨w.heap.size, 5, none⟩ = some (.int .i64 s.I) ∧ W.cell? ⟨w.heap.size, 6, none⟩ = some (.int .i64 s.B) ∧ W.cell? ⟨w.heap.size, 7, none⟩ = some (.bool s.ws) ∧ W.cell? ⟨w.heap.size, 8, none⟩ = some (.bool s.cs) ∧ w.heap.size < W.heap.size ∧ Below w.heap.size w W) ∧ (W.cell? ⟨q, off, none⟩ = some (.int .i64 1) ∧ W.cell? ⟨q, off + 1, none⟩ = some (.int .i64 y) ∧ q < W.heap.size)) (first | exact ⟨dS HS7.out.1, HS7.out.2⟩ | exact keepSL2 (by assumption) (by assumption))
      (first | (go_at_call 34; (with_reducible refine (f34_is s u 1 m true Hm.out _).mono ?_); rintro e wq ⟨rfl, hbq⟩))
    rename_i T7
    clear HS7
    go_wp2_with fail
    have HS8 := Hd.mk T7
    clear T7
    go_region_held3 (fun W => (W.cell? ⟨w.heap.size, 0, none⟩ = some (.int .i64 s.W) ∧ W.cell? ⟨w.heap.size, 1, none⟩ = some (.int .i64 s.H) ∧ W.cell? ⟨w.heap.size, 2, none⟩ = some (.int .i64 s.L) ∧ W.cell? ⟨w.heap.size, 3, none⟩ = some (.int .i64 s.D) ∧ W.cell? ⟨w.heap.size, 4, none⟩ = some (.int .i64 s.R) ∧ W.cell? ⟨w.heap.size, 5, none⟩ = some (.int .i64 s.I) ∧ W.cell? ⟨w.heap.size, 6, none⟩ = some (.int .i64 s.B) ∧ W.cell? ⟨w.heap.size, 7, none⟩ = some (.bool s.ws) ∧ W.cell? ⟨w.heap.size, 8, none⟩ = some (.bool s.cs) ∧ w.heap.size < W.heap.size ∧ Below w.heap.size w W) ∧ (W.cell? ⟨q, off, none⟩ = some (.int .i64 1) ∧ W.cell? ⟨q, off + 1, none⟩ = some (.int .i64 y) ∧ q < W.heap.size)) (first | exact ⟨dS HS8.out.1, HS8.out.2⟩ | exact keepSL2 (by assumption) (by assumption))
      (first | (go_at_call 33; (with_reducible refine (f33_is s m v d1 Hmd.out _).mono ?_); rintro e wq ⟨rfl, hbq⟩) | (go_at_call 33; (with_reducible refine (f33_is s u v d HD.out _).mono ?_); rintro e wq ⟨rfl, hbq⟩))
    rename_i T8
    clear HS8
    go_wp2
    rw [rounds_succ]
    go_wp2_with fail
    have HS9 := Hd.mk T8
    clear T8
    go_region_held3 (fun W => (W.cell? ⟨w.heap.size, 0, none⟩ = some (.int .i64 s.W) ∧ W.cell? ⟨w.heap.size, 1, none⟩ = some (.int .i64 s.H) ∧ W.cell? ⟨w.heap.size, 2, none⟩ = some (.int .i64 s.L) ∧ W.cell? ⟨w.heap.size, 3, none⟩ = some (.int .i64 s.D) ∧ W.cell? ⟨w.heap.size, 4, none⟩ = some (.int .i64 s.R) ∧ W.cell? ⟨w.heap.size, 5, none⟩ = some (.int .i64 s.I) ∧ W.cell? ⟨w.heap.size, 6, none⟩ = some (.int .i64 s.B) ∧ W.cell? ⟨w.heap.size, 7, none⟩ = some (.bool s.ws) ∧ W.cell? ⟨w.heap.size, 8, none⟩ = some (.bool s.cs) ∧ w.heap.size < W.heap.size ∧ Below w.heap.size w W) ∧ (W.cell? ⟨q, off, none⟩ = some (.int .i64 1) ∧ W.cell? ⟨q, off + 1, none⟩ = some (.int .i64 y) ∧ q < W.heap.size)) (first | exact ⟨dS HS9.out.1, HS9.out.2⟩ | exact keepSL2 (by assumption) (by assumption))
      (first | (go_at_call 34; (with_reducible refine (f34_is s u y m2 true Hm2.out _).mono ?_); rintro e wq ⟨rfl, hbq⟩))
    rename_i T9
    clear HS9
    go_wp2_with fail
    have HS10 := Hd.mk T9
    clear T9
    go_region_held3 (fun W => (W.cell? ⟨w.heap.size, 0, none⟩ = some (.int .i64 s.W) ∧ W.cell? ⟨w.heap.size, 1, none⟩ = some (.int .i64 s.H) ∧ W.cell? ⟨w.heap.size, 2, none⟩ = some (.int .i64 s.L) ∧ W.cell? ⟨w.heap.size, 3, none⟩ = some (.int .i64 s.D) ∧ W.cell? ⟨w.heap.size, 4, none⟩ = some (.int .i64 s.R) ∧ W.cell? ⟨w.heap.size, 5, none⟩ = some (.int .i64 s.I) ∧ W.cell? ⟨w.heap.size, 6, none⟩ = some (.int .i64 s.B) ∧ W.cell? ⟨w.heap.size, 7, none⟩ = some (.bool s.ws) ∧ W.cell? ⟨w.heap.size, 8, none⟩ = some (.bool s.cs) ∧ w.heap.size < W.heap.size ∧ Below w.heap.size w W) ∧ (W.cell? ⟨q, off, none⟩ = some (.int .i64 1) ∧ W.cell? ⟨q, off + 1, none⟩ = some (.int .i64 y) ∧ q < W.heap.size)) (first | exact ⟨dS HS10.out.1, HS10.out.2⟩ | exact keepSL2 (by assumption) (by assumption))
      (first | (go_at_call 33; (with_reducible refine (f33_is s m2 v d1 Hm2d.out _).mono ?_); rintro e wq ⟨rfl, hbq⟩) | (go_at_call 33; (with_reducible refine (f33_is s u v d HD.out _).mono ?_); rintro e wq ⟨rfl, hbq⟩))
    rename_i T10
    clear HS10
    go_wp2
    rw [rounds_succ]
    go_wp2_with fail
    have hws := HWS.out
    have HB0 := Hd.mk T10.1
    rw [hws] at T10
    have HT11 := Hd.mk T10
    have HS0 := T10.1
    have HE0 := T10.2
    have HC11 := HS0.2.2.2.2.2.2.2.1
    clear T10
    go_quiet (fail)
    have T11 := drewNS nq HB0.out
    clear HS0 HE0 HT11
    go_wp2
    go_ret
    exact ⟨rfl, sB T11⟩

theorem law15_calls (c : Cfg) (a : Int) (_ : -9223372036854775808 ≤ a ∧ a ≤ 9223372036854775807) (b : Int) (_ : -9223372036854775808 ≤ b ∧ b ≤ 9223372036854775807) (w : World) :
    Calls Try.prog 15 #[cv c, .int .i64 a, .int .i64 b] w fun e w' => e = .returned (.bool true) ∧ Below w.heap.size w w' := law15_go c a b w

end Go.Proofs.Ytnbogjiddildaaa
