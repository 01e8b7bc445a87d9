/- The walk of the law TurnWays. -/
import Derived.Test.YtnbogjiddildaaaT9
namespace Go.Proofs.Ytnbogjiddildaaa
open Go.RowKit
set_option linter.unusedSimpArgs false
set_option linter.unusedVariables false

abbrev wsx (b : Bool) (c : Cfg) : Cfg := { c with ws := b }
theorem set7X {c : Cfg} {g : Nat} {w W : World} (b : Bool) (hg : w.heap.size ≤ g) (hS : W.cell? ⟨g, 0, none⟩ = some (.int .i64 c.W) ∧ W.cell? ⟨g, 1, none⟩ = some (.int .i64 c.H) ∧ W.cell? ⟨g, 2, none⟩ = some (.int .i64 c.L) ∧ W.cell? ⟨g, 3, none⟩ = some (.int .i64 c.D) ∧ W.cell? ⟨g, 4, none⟩ = some (.int .i64 c.R) ∧ W.cell? ⟨g, 5, none⟩ = some (.int .i64 c.I) ∧ W.cell? ⟨g, 6, none⟩ = some (.int .i64 c.B) ∧ W.cell? ⟨g, 7, none⟩ = some (.bool c.ws) ∧ W.cell? ⟨g, 8, none⟩ = some (.bool c.cs) ∧ g < W.heap.size ∧ Below w.heap.size w W) : (W.setCell ⟨g, 7, none⟩ (.bool b)).cell? ⟨g, 0, none⟩ = some (.int .i64 c.W) ∧ (W.setCell ⟨g, 7, none⟩ (.bool b)).cell? ⟨g, 1, none⟩ = some (.int .i64 c.H) ∧ (W.setCell ⟨g, 7, none⟩ (.bool b)).cell? ⟨g, 2, none⟩ = some (.int .i64 c.L) ∧ (W.setCell ⟨g, 7, none⟩ (.bool b)).cell? ⟨g, 3, none⟩ = some (.int .i64 c.D) ∧ (W.setCell ⟨g, 7, none⟩ (.bool b)).cell? ⟨g, 4, none⟩ = some (.int .i64 c.R) ∧ (W.setCell ⟨g, 7, none⟩ (.bool b)).cell? ⟨g, 5, none⟩ = some (.int .i64 c.I) ∧ (W.setCell ⟨g, 7, none⟩ (.bool b)).cell? ⟨g, 6, none⟩ = some (.int .i64 c.B) ∧ (W.setCell ⟨g, 7, none⟩ (.bool b)).cell? ⟨g, 7, none⟩ = some (.bool b) ∧ (W.setCell ⟨g, 7, none⟩ (.bool b)).cell? ⟨g, 8, none⟩ = some (.bool c.cs) ∧ g < (W.setCell ⟨g, 7, none⟩ (.bool b)).heap.size ∧ Below w.heap.size w (W.setCell ⟨g, 7, none⟩ (.bool b)) := by
  obtain ⟨h0, h1, h2, h3, h4, h5, h6, h7, h8, hz, hB⟩ := hS
  refine ⟨?_, ?_, ?_, ?_, ?_, ?_, ?_, ?_, ?_, by simpa [World.setCell] using hz, bset hB hg _⟩
  all_goals first | exact World.cell?_setCell_same' _ _ _ (by rw [h7]; rfl) | (refine (World.cell?_setCell_other _ _ _ _ (fun e => ?_)).trans (by assumption); simp at e)
theorem str_cons {c : Cfg} {a b : Int} (ha : isB c a = true) (hb : isB c b = true) : ∃ ys, strP c a b = hdP c a b :: ys := by
  by_cases h : a = b
  · subst h
    have h0 := (near_x ha ha).loc.2 rfl
    exact ⟨[], by rw [str_here ha, h0]⟩
  · obtain ⟨m, hm, _⟩ := (near_x ha hb).step
    exact ⟨_, str_step ha hb h hm⟩

theorem rd_set7 {W : World} {A : Option Addr} {xs : List Int} {g : Nat} {b u : Bool} (h : Rd W A xs) (h7 : W.cell? ⟨g, 7, none⟩ = some (.bool u)) : Rd (W.setCell ⟨g, 7, none⟩ (.bool b)) A xs := fun hn => by
  obtain ⟨q, off, e, hg, hc⟩ := h hn
  refine ⟨q, off, e, by simpa [World.setCell] using hg, fun j x hx => ?_⟩
  have h1 := hc j x hx
  refine (World.cell?_setCell_other _ _ _ _ (fun e => ?_)).trans h1
  rw [← e] at h1
  rw [h7] at h1
  cases h1

set_option maxHeartbeats 1000000 in
set_option maxRecDepth 20000 in
theorem law18_go (c : Cfg) (a b : Int) (w : World) :
    Calls Try.prog 18 #[cv c, .int .i64 a, .int .i64 b] w fun e w' => e = .returned (.bool true) ∧ Below w.heap.size w w' := by
  go_enter Try.func18, Try.ntmps18
  go_wp2_with fail
  refine (f57_any _).mono ?_
  rintro e w1 ⟨rfl, hb1⟩
  have S1 := keepS hb1 (s0 c w)
  have F1 := keepF hb1 (by simp) (fz0 c w)
  clear hb1
  go_wp2_with fail
  refine (f31_sm c _).mono ?_
  rintro e w2 ⟨s, hsm, rfl, hb2⟩
  have S2 := keepS hb2 S1
  have F2 := keepF hb2 S1.2.2.2.2.2.2.2.2.2.1 F1
  clear hb2 S1 F1
  go_wp2_with fail
  have S3 := storesS (s := s) (Nat.le_refl _) S2
  have F3 := storesF (s := s) F2
  clear S2 F2
  generalize (((((((((w2.setCell ⟨w.heap.size, 0, none⟩ (.int .i64 s.W)).setCell ⟨w.heap.size, 1, none⟩ (.int .i64 s.H)).setCell ⟨w.heap.size, 2, none⟩ (.int .i64 s.L)).setCell ⟨w.heap.size, 3, none⟩ (.int .i64 s.D)).setCell ⟨w.heap.size, 4, none⟩ (.int .i64 s.R)).setCell ⟨w.heap.size, 5, none⟩ (.int .i64 s.I)).setCell ⟨w.heap.size, 6, none⟩ (.int .i64 s.B)).setCell ⟨w.heap.size, 7, none⟩ (.bool s.ws)).setCell ⟨w.heap.size, 8, none⟩ (.bool s.cs)) = w3 at S3 F3 ⊢
  obtain ⟨u, HU⟩ : ∃ z, Hd (nodeP s a = z) := ⟨_, ⟨rfl⟩⟩
  have HBu : Hd (isB s u = true) := ⟨by have h := nodeP_is hsm.ok a; rw [HU.out] at h; exact h⟩
  obtain ⟨v, HV⟩ : ∃ z, Hd (nodeP s b = z) := ⟨_, ⟨rfl⟩⟩
  have HBv : Hd (isB s v = true) := ⟨by have h := nodeP_is hsm.ok b; rw [HV.out] at h; exact h⟩
  go_wp2_with fail
  refine (f32_is s a u hsm.ok HU.out _).mono ?_
  rintro e w4 ⟨rfl, hb4⟩
  have S4 := keepS (c := s) hb4 S3
  have F4 := keepF hb4 S3.2.2.2.2.2.2.2.2.2.1 F3
  clear hb4 S3 F3
  go_wp2_with fail
  refine (f32_is s b v hsm.ok HV.out _).mono ?_
  rintro e w5 ⟨rfl, hb5⟩
  have S5 := keepS (c := s) hb5 S4
  have F5 := keepF hb5 S4.2.2.2.2.2.2.2.2.2.1 F4
  clear hb5 S4 F4
  go_wp2_with fail
  have S6 : (w5.setCell ⟨w.heap.size, 7, none⟩ (.bool false)).cell? ⟨w.heap.size, 0, none⟩ = some (.int .i64 (wsx false s).W) ∧ (w5.setCell ⟨w.heap.size, 7, none⟩ (.bool false)).cell? ⟨w.heap.size, 1, none⟩ = some (.int .i64 (wsx false s).H) ∧ (w5.setCell ⟨w.heap.size, 7, none⟩ (.bool false)).cell? ⟨w.heap.size, 2, none⟩ = some (.int .i64 (wsx false s).L) ∧ (w5.setCell ⟨w.heap.size, 7, none⟩ (.bool false)).cell? ⟨w.heap.size, 3, none⟩ = some (.int .i64 (wsx false s).D) ∧ (w5.setCell ⟨w.heap.size, 7, none⟩ (.bool false)).cell? ⟨w.heap.size, 4, none⟩ = some (.int .i64 (wsx false s).R) ∧ (w5.setCell ⟨w.heap.size, 7, none⟩ (.bool false)).cell? ⟨w.heap.size, 5, none⟩ = some (.int .i64 (wsx false s).I) ∧ (w5.setCell ⟨w.heap.size, 7, none⟩ (.bool false)).cell? ⟨w.heap.size, 6, none⟩ = some (.int .i64 (wsx false s).B) ∧ (w5.setCell ⟨w.heap.size, 7, none⟩ (.bool false)).cell? ⟨w.heap.size, 7, none⟩ = some (.bool (wsx false s).ws) ∧ (w5.setCell ⟨w.heap.size, 7, none⟩ (.bool false)).cell? ⟨w.heap.size, 8, none⟩ = some (.bool (wsx false s).cs) ∧ w.heap.size < (w5.setCell ⟨w.heap.size, 7, none⟩ (.bool false)).heap.size ∧ Below w.heap.size w (w5.setCell ⟨w.heap.size, 7, none⟩ (.bool false)) := set7X (c := s) false (Nat.le_refl _) S5
  have F6 : (w5.setCell ⟨w.heap.size, 7, none⟩ (.bool false)).frozen? ⟨w.heap.size, 0, none⟩ = false ∧ (w5.setCell ⟨w.heap.size, 7, none⟩ (.bool false)).frozen? ⟨w.heap.size, 1, none⟩ = false ∧ (w5.setCell ⟨w.heap.size, 7, none⟩ (.bool false)).frozen? ⟨w.heap.size, 2, none⟩ = false ∧ (w5.setCell ⟨w.heap.size, 7, none⟩ (.bool false)).frozen? ⟨w.heap.size, 3, none⟩ = false ∧ (w5.setCell ⟨w.heap.size, 7, none⟩ (.bool false)).frozen? ⟨w.heap.size, 4, none⟩ = false ∧ (w5.setCell ⟨w.heap.size, 7, none⟩ (.bool false)).frozen? ⟨w.heap.size, 5, none⟩ = false ∧ (w5.setCell ⟨w.heap.size, 7, none⟩ (.bool false)).frozen? ⟨w.heap.size, 6, none⟩ = false ∧ (w5.setCell ⟨w.heap.size, 7, none⟩ (.bool false)).frozen? ⟨w.heap.size, 7, none⟩ = false ∧ (w5.setCell ⟨w.heap.size, 7, none⟩ (.bool false)).frozen? ⟨w.heap.size, 8, none⟩ = false := by simp only [World.frozen?_setCell]; exact F5
  clear S5 F5
  generalize (w5.setCell ⟨w.heap.size, 7, none⟩ (.bool false)) = w6 at S6 F6 ⊢
  obtain ⟨x, HX⟩ : ∃ z, Hd (hdP s u v = z) := ⟨_, ⟨rfl⟩⟩
  have HOX : Hd (optP (wsx false s) u v = [x]) := ⟨by rw [← HX.out]; exact opt_xf HBu.out HBv.out⟩
  obtain ⟨ys, HYS⟩ : ∃ ys, Hd (strP (xf (wsx false s)) u v = x :: ys) := by
    obtain ⟨ys, h⟩ := str_cons (c := s) HBu.out HBv.out
    rw [HX.out] at h
    exact ⟨ys, ⟨h⟩⟩
  refine (f60_any (wsx false s) u v _).mono ?_
  rintro e w7 ⟨r7, rfl, hr7, hb7⟩
  have S7 := keepS (c := wsx false s) hb7 S6
  have F7 := keepF hb7 S6.2.2.2.2.2.2.2.2.2.1 F6
  rw [HOX.out] at hr7
  obtain ⟨A7, c7, rfl, hc7, hrd7⟩ := hr7.rd
  have R7 := Hd.mk hrd7
  clear hr7 hrd7
  clear hb7 S6 F6
  go_wp2_with fail
  refine (f66_is (wsx false s) u v _ HYS.out _).mono ?_
  rintro e w8 ⟨A8, _, c8, rfl, rfl, hc8, hrd8, hb8⟩
  have S8 := keepS (c := wsx false s) hb8 S7
  have F8 := keepF hb8 S7.2.2.2.2.2.2.2.2.2.1 F7
  have R7b := Hd.mk (Rd.below R7.out hb8)
  have R8 := Hd.mk hrd8
  clear hrd8 R7
  clear hb8 S7 F7
  go_wp2_with fail
  have S9 : (w8.setCell ⟨w.heap.size, 7, none⟩ (.bool true)).cell? ⟨w.heap.size, 0, none⟩ = some (.int .i64 (wsx true s).W) ∧ (w8.setCell ⟨w.heap.size, 7, none⟩ (.bool true)).cell? ⟨w.heap.size, 1, none⟩ = some (.int .i64 (wsx true s).H) ∧ (w8.setCell ⟨w.heap.size, 7, none⟩ (.bool true)).cell? ⟨w.heap.size, 2, none⟩ = some (.int .i64 (wsx true s).L) ∧ (w8.setCell ⟨w.heap.size, 7, none⟩ (.bool true)).cell? ⟨w.heap.size, 3, none⟩ = some (.int .i64 (wsx true s).D) ∧ (w8.setCell ⟨w.heap.size, 7, none⟩ (.bool true)).cell? ⟨w.heap.size, 4, none⟩ = some (.int .i64 (wsx true s).R) ∧ (w8.setCell ⟨w.heap.size, 7, none⟩ (.bool true)).cell? ⟨w.heap.size, 5, none⟩ = some (.int .i64 (wsx true s).I) ∧ (w8.setCell ⟨w.heap.size, 7, none⟩ (.bool true)).cell? ⟨w.heap.size, 6, none⟩ = some (.int .i64 (wsx true s).B) ∧ (w8.setCell ⟨w.heap.size, 7, none⟩ (.bool true)).cell? ⟨w.heap.size, 7, none⟩ = some (.bool (wsx true s).ws) ∧ (w8.setCell ⟨w.heap.size, 7, none⟩ (.bool true)).cell? ⟨w.heap.size, 8, none⟩ = some (.bool (wsx true s).cs) ∧ w.heap.size < (w8.setCell ⟨w.heap.size, 7, none⟩ (.bool true)).heap.size ∧ Below w.heap.size w (w8.setCell ⟨w.heap.size, 7, none⟩ (.bool true)) := set7X (c := wsx false s) true (Nat.le_refl _) S8
  have R7c : Hd (Rd (w8.setCell ⟨w.heap.size, 7, none⟩ (.bool true)) A7 [x]) := ⟨rd_set7 R7b.out S8.2.2.2.2.2.2.2.1⟩
  have R8c : Hd (Rd (w8.setCell ⟨w.heap.size, 7, none⟩ (.bool true)) A8 (x :: ys)) := ⟨rd_set7 R8.out S8.2.2.2.2.2.2.2.1⟩
  clear S8 F8 R7b R8
  generalize (w8.setCell ⟨w.heap.size, 7, none⟩ (.bool true)) = w9 at S9 R7c R8c ⊢
  refine (f60_any (wsx true s) u v _).mono ?_
  rintro e w10 ⟨r10, rfl, hr10, hb10⟩
  have S10 := keepS (c := wsx true s) hb10 S9
  have R7 := Hd.mk (Rd.below R7c.out hb10)
  have R8 := Hd.mk (Rd.below R8c.out hb10)
  clear hb10 S9 R7c R8c
  obtain ⟨g7, o7, rfl, hg7, hq7⟩ := R7.out (by simp)
  have hx7 := hq7 0 x rfl
  obtain ⟨g8, o8, rfl, hg8, hq8⟩ := R8.out (by simp)
  have hx8 := hq8 0 x rfl
  simp only [Nat.add_zero] at hx7 hx8
  clear R7 R8 hq7 hq8 hg7 hg8
  obtain ⟨n8, HN8⟩ : ∃ n : Nat, Hd ((x :: ys).length = n + 1) := ⟨ys.length, ⟨rfl⟩⟩
  rw [HN8.out] at *
  obtain ⟨ux, HUX⟩ : ∃ z, Hd (u % s.W = z) := ⟨_, ⟨rfl⟩⟩
  obtain ⟨vx, HVX⟩ : ∃ z, Hd (v % s.W = z) := ⟨_, ⟨rfl⟩⟩
  obtain ⟨uy, HUY⟩ : ∃ z, Hd (u / s.W = z) := ⟨_, ⟨rfl⟩⟩
  obtain ⟨vy, HVY⟩ : ∃ z, Hd (v / s.W = z) := ⟨_, ⟨rfl⟩⟩
  have HIu := Hd.mk (inn HBu.out)
  have HIv := Hd.mk (inn HBv.out)
  have hW2 : s.W ≤ 64 := by have := hsm.W2; omega
  have ho := opt_is (c := wsx true s) HBu.out HBv.out
  rw [show hdP (wsx true s) u v = hdP s u v from rfl, show (wsx true s).W = s.W from rfl, HX.out, HUX.out, HVX.out, HUY.out, HVY.out] at ho
  rcases ho with ⟨hop, hno⟩ | ⟨hop, rfl, _, hlx, hly⟩
  · have HOP := Hd.mk hop
    clear hop
    by_cases hlt : ux < vx
    · obtain rfl : uy = vy := by
        rcases Decidable.em (vy = uy) with h | h
        · exact h.symm
        · exact absurd ⟨rfl, hlt, h⟩ hno
      clear hno
      rw [HOP.out] at hr10
      obtain ⟨A10, c10, rfl, hc10, hrd10⟩ := hr10.rd
      obtain ⟨g9, o9, rfl, hg9, hq9⟩ := hrd10 (by simp)
      have hx9 := hq9 0 x rfl
      simp only [Nat.add_zero] at hx9
      clear hrd10 hq9 hr10 hg9
      have HS0 := Hd.mk S10
      clear S10
      go_wp2_with fail
      go_quiet (fail)
      have S11 := drewNS (c := wsx true s) nq HS0.out
      clear HS0 hx7 hx8 hx9
      go_wp2_with fail
      have HS12 := Hd.mk S11
      clear S11
      go_region_held3 (fun W => W.cell? ⟨w.heap.size, 0, none⟩ = some (.int .i64 (wsx true s).W) ∧ W.cell? ⟨w.heap.size, 1, none⟩ = some (.int .i64 (wsx true s).H) ∧ W.cell? ⟨w.heap.size, 2, none⟩ = some (.int .i64 (wsx true s).L) ∧ W.cell? ⟨w.heap.size, 3, none⟩ = some (.int .i64 (wsx true s).D) ∧ W.cell? ⟨w.heap.size, 4, none⟩ = some (.int .i64 (wsx true s).R) ∧ W.cell? ⟨w.heap.size, 5, none⟩ = some (.int .i64 (wsx true s).I) ∧ W.cell? ⟨w.heap.size, 6, none⟩ = some (.int .i64 (wsx true s).B) ∧ W.cell? ⟨w.heap.size, 7, none⟩ = some (.bool (wsx true s).ws) ∧ W.cell? ⟨w.heap.size, 8, none⟩ = some (.bool (wsx true s).cs) ∧ w.heap.size < W.heap.size ∧ Below w.heap.size w W) (first | exact dS (c := wsx true s) HS12.out | exact keepS (c := wsx true s) (by assumption) (by assumption))
        (first | (go_at_call 39; (with_reducible refine (f39_nm (wsx true s) v vx HVX.out HIv.out.n0 HIv.out.n1 hsm.W1 hW2 _).mono ?_); rintro e wq ⟨rfl, hbq⟩) | (go_at_call 39; (with_reducible refine (f39_nm (wsx true s) u ux HUX.out HIu.out.n0 HIu.out.n1 hsm.W1 hW2 _).mono ?_); rintro e wq ⟨rfl, hbq⟩))
      rename_i S12
      clear HS12
      go_wp2_with fail
      have HS13 := Hd.mk S12
      clear S12
      go_region_held3 (fun W => W.cell? ⟨w.heap.size, 0, none⟩ = some (.int .i64 (wsx true s).W) ∧ W.cell? ⟨w.heap.size, 1, none⟩ = some (.int .i64 (wsx true s).H) ∧ W.cell? ⟨w.heap.size, 2, none⟩ = some (.int .i64 (wsx true s).L) ∧ W.cell? ⟨w.heap.size, 3, none⟩ = some (.int .i64 (wsx true s).D) ∧ W.cell? ⟨w.heap.size, 4, none⟩ = some (.int .i64 (wsx true s).R) ∧ W.cell? ⟨w.heap.size, 5, none⟩ = some (.int .i64 (wsx true s).I) ∧ W.cell? ⟨w.heap.size, 6, none⟩ = some (.int .i64 (wsx true s).B) ∧ W.cell? ⟨w.heap.size, 7, none⟩ = some (.bool (wsx true s).ws) ∧ W.cell? ⟨w.heap.size, 8, none⟩ = some (.bool (wsx true s).cs) ∧ w.heap.size < W.heap.size ∧ Below w.heap.size w W) (first | exact dS (c := wsx true s) HS13.out | exact keepS (c := wsx true s) (by assumption) (by assumption))
        (first | (go_at_call 40; (with_reducible refine (f40_nm (wsx true s) v uy HVY.out HIv.out.n0 HIv.out.n1 hsm.W1 hW2 _).mono ?_); rintro e wq ⟨rfl, hbq⟩) | (go_at_call 40; (with_reducible refine (f40_nm (wsx true s) u uy HUY.out HIu.out.n0 HIu.out.n1 hsm.W1 hW2 _).mono ?_); rintro e wq ⟨rfl, hbq⟩))
      rename_i S13
      clear HS13
      go_wp2
      go_ret
      exact ⟨rfl, sB (c := wsx true s) S13⟩
    · clear hno
      have hxx : decide (ux < vx) = false := decide_eq_false hlt
      rw [HOP.out] at hr10
      obtain ⟨A10, c10, rfl, hc10, hrd10⟩ := hr10.rd
      obtain ⟨g9, o9, rfl, hg9, hq9⟩ := hrd10 (by simp)
      have hx9 := hq9 0 x rfl
      simp only [Nat.add_zero] at hx9
      clear hrd10 hq9 hr10 hg9
      have HS0 := Hd.mk S10
      clear S10
      go_wp2_with fail
      go_quiet (fail)
      have S11 := drewNS (c := wsx true s) nq HS0.out
      clear HS0 hx7 hx8 hx9
      go_wp2_with fail
      have HS12 := Hd.mk S11
      clear S11
      go_region_held3 (fun W => W.cell? ⟨w.heap.size, 0, none⟩ = some (.int .i64 (wsx true s).W) ∧ W.cell? ⟨w.heap.size, 1, none⟩ = some (.int .i64 (wsx true s).H) ∧ W.cell? ⟨w.heap.size, 2, none⟩ = some (.int .i64 (wsx true s).L) ∧ W.cell? ⟨w.heap.size, 3, none⟩ = some (.int .i64 (wsx true s).D) ∧ W.cell? ⟨w.heap.size, 4, none⟩ = some (.int .i64 (wsx true s).R) ∧ W.cell? ⟨w.heap.size, 5, none⟩ = some (.int .i64 (wsx true s).I) ∧ W.cell? ⟨w.heap.size, 6, none⟩ = some (.int .i64 (wsx true s).B) ∧ W.cell? ⟨w.heap.size, 7, none⟩ = some (.bool (wsx true s).ws) ∧ W.cell? ⟨w.heap.size, 8, none⟩ = some (.bool (wsx true s).cs) ∧ w.heap.size < W.heap.size ∧ Below w.heap.size w W) (first | exact dS (c := wsx true s) HS12.out | exact keepS (c := wsx true s) (by assumption) (by assumption))
        (first | (go_at_call 39; (with_reducible refine (f39_nm (wsx true s) v vx HVX.out HIv.out.n0 HIv.out.n1 hsm.W1 hW2 _).mono ?_); rintro e wq ⟨rfl, hbq⟩) | (go_at_call 39; (with_reducible refine (f39_nm (wsx true s) u ux HUX.out HIu.out.n0 HIu.out.n1 hsm.W1 hW2 _).mono ?_); rintro e wq ⟨rfl, hbq⟩))
      rename_i S12
      clear HS12
      go_wp2_with fail
      have HS13 := Hd.mk S12
      clear S12
      go_region_held3 (fun W => W.cell? ⟨w.heap.size, 0, none⟩ = some (.int .i64 (wsx true s).W) ∧ W.cell? ⟨w.heap.size, 1, none⟩ = some (.int .i64 (wsx true s).H) ∧ W.cell? ⟨w.heap.size, 2, none⟩ = some (.int .i64 (wsx true s).L) ∧ W.cell? ⟨w.heap.size, 3, none⟩ = some (.int .i64 (wsx true s).D) ∧ W.cell? ⟨w.heap.size, 4, none⟩ = some (.int .i64 (wsx true s).R) ∧ W.cell? ⟨w.heap.size, 5, none⟩ = some (.int .i64 (wsx true s).I) ∧ W.cell? ⟨w.heap.size, 6, none⟩ = some (.int .i64 (wsx true s).B) ∧ W.cell? ⟨w.heap.size, 7, none⟩ = some (.bool (wsx true s).ws) ∧ W.cell? ⟨w.heap.size, 8, none⟩ = some (.bool (wsx true s).cs) ∧ w.heap.size < W.heap.size ∧ Below w.heap.size w W) (first | exact dS (c := wsx true s) HS13.out | exact keepS (c := wsx true s) (by assumption) (by assumption))
        (first | (go_at_call 40; (with_reducible refine (f40_nm (wsx true s) v vy HVY.out HIv.out.n0 HIv.out.n1 hsm.W1 hW2 _).mono ?_); rintro e wq ⟨rfl, hbq⟩) | (go_at_call 40; (with_reducible refine (f40_nm (wsx true s) u uy HUY.out HIu.out.n0 HIu.out.n1 hsm.W1 hW2 _).mono ?_); rintro e wq ⟨rfl, hbq⟩))
      rename_i S13
      clear HS13
      go_wp2
      go_ret
      exact ⟨rfl, sB (c := wsx true s) S13⟩
  · obtain ⟨y, HY⟩ : ∃ z, Hd (sgn uy vy 3 4 = z) := ⟨_, ⟨rfl⟩⟩
    rw [HY.out] at hop
    have HOP := Hd.mk hop
    have hyy : (vy == uy) = false := by rw [beq_eq_false_iff_ne]; exact hly
    have HLY := Hd.mk hly
    clear hop hly
    rw [HOP.out] at hr10
    obtain ⟨A10, c10, rfl, hc10, hrd10⟩ := hr10.rd
    obtain ⟨g9, o9, rfl, hg9, hq9⟩ := hrd10 (by simp)
    have hx9 := hq9 0 1 rfl
    simp only [Nat.add_zero] at hx9
    clear hrd10 hq9 hr10 hg9
    have HS0 := Hd.mk S10
    clear S10
    go_wp2_with fail
    go_quiet (fail)
    have S11 := drewNS (c := wsx true s) nq HS0.out
    clear HS0 hx7 hx8 hx9
    go_wp2_with fail
    have HS12 := Hd.mk S11
    clear S11
    go_region_held3 (fun W => W.cell? ⟨w.heap.size, 0, none⟩ = some (.int .i64 (wsx true s).W) ∧ W.cell? ⟨w.heap.size, 1, none⟩ = some (.int .i64 (wsx true s).H) ∧ W.cell? ⟨w.heap.size, 2, none⟩ = some (.int .i64 (wsx true s).L) ∧ W.cell? ⟨w.heap.size, 3, none⟩ = some (.int .i64 (wsx true s).D) ∧ W.cell? ⟨w.heap.size, 4, none⟩ = some (.int .i64 (wsx true s).R) ∧ W.cell? ⟨w.heap.size, 5, none⟩ = some (.int .i64 (wsx true s).I) ∧ W.cell? ⟨w.heap.size, 6, none⟩ = some (.int .i64 (wsx true s).B) ∧ W.cell? ⟨w.heap.size, 7, none⟩ = some (.bool (wsx true s).ws) ∧ W.cell? ⟨w.heap.size, 8, none⟩ = some (.bool (wsx true s).cs) ∧ w.heap.size < W.heap.size ∧ Below w.heap.size w W) (first | exact dS (c := wsx true s) HS12.out | exact keepS (c := wsx true s) (by assumption) (by assumption))
      (first | (go_at_call 39; (with_reducible refine (f39_nm (wsx true s) v vx HVX.out HIv.out.n0 HIv.out.n1 hsm.W1 hW2 _).mono ?_); rintro e wq ⟨rfl, hbq⟩) | (go_at_call 39; (with_reducible refine (f39_nm (wsx true s) u ux HUX.out HIu.out.n0 HIu.out.n1 hsm.W1 hW2 _).mono ?_); rintro e wq ⟨rfl, hbq⟩))
    rename_i S12
    clear HS12
    go_wp2_with fail
    have HS13 := Hd.mk S12
    clear S12
    go_region_held3 (fun W => W.cell? ⟨w.heap.size, 0, none⟩ = some (.int .i64 (wsx true s).W) ∧ W.cell? ⟨w.heap.size, 1, none⟩ = some (.int .i64 (wsx true s).H) ∧ W.cell? ⟨w.heap.size, 2, none⟩ = some (.int .i64 (wsx true s).L) ∧ W.cell? ⟨w.heap.size, 3, none⟩ = some (.int .i64 (wsx true s).D) ∧ W.cell? ⟨w.heap.size, 4, none⟩ = some (.int .i64 (wsx true s).R) ∧ W.cell? ⟨w.heap.size, 5, none⟩ = some (.int .i64 (wsx true s).I) ∧ W.cell? ⟨w.heap.size, 6, none⟩ = some (.int .i64 (wsx true s).B) ∧ W.cell? ⟨w.heap.size, 7, none⟩ = some (.bool (wsx true s).ws) ∧ W.cell? ⟨w.heap.size, 8, none⟩ = some (.bool (wsx true s).cs) ∧ w.heap.size < W.heap.size ∧ Below w.heap.size w W) (first | exact dS (c := wsx true s) HS13.out | exact keepS (c := wsx true s) (by assumption) (by assumption))
      (first | (go_at_call 40; (with_reducible refine (f40_nm (wsx true s) v vy HVY.out HIv.out.n0 HIv.out.n1 hsm.W1 hW2 _).mono ?_); rintro e wq ⟨rfl, hbq⟩) | (go_at_call 40; (with_reducible refine (f40_nm (wsx true s) u uy HUY.out HIu.out.n0 HIu.out.n1 hsm.W1 hW2 _).mono ?_); rintro e wq ⟨rfl, hbq⟩))
    rename_i S13
    clear HS13
    go_wp2
    go_ret
    exact ⟨rfl, sB (c := wsx true s) S13⟩

theorem law18_calls (c : Cfg) (a : Int) (_ : -9223372036854775808 ≤ a ∧ a ≤ 9223372036854775807) (b : Int) (_ : -9223372036854775808 ≤ b ∧ b ≤ 9223372036854775807) (w : World) :
    Calls Try.prog 18 #[cv c, .int .i64 a, .int .i64 b] w fun e w' => e = .returned (.bool true) ∧ Below w.heap.size w w' := law18_go c a b w

end Go.Proofs.Ytnbogjiddildaaa
