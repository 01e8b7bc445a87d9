/- The walk of the law WalkChoices. -/
import Derived.Test.YtnbogjiddildaaaU8
import Derived.Test.YtnbogjiddildaaaT10
namespace Go.Proofs.Ytnbogjiddildaaa
open Go.RowKit
set_option linter.unusedSimpArgs false
set_option linter.unusedVariables false

theorem keepSEF {c : Cfg} {g h : Nat} {a b : Int} {w W W' : World} (hb : Below W.heap.size W W') (H : ((W.cell? ⟨g, 0, none⟩ = some (.int .i64 c.W) ∧ W.cell? ⟨g, 1, none⟩ = some (.int .i64 c.H) ∧ W.cell? ⟨g, 2, none⟩ = some (.int .i64 c.L) ∧ W.cell? ⟨g, 3, none⟩ = some (.int .i64 c.D) ∧ W.cell? ⟨g, 4, none⟩ = some (.int .i64 c.R) ∧ W.cell? ⟨g, 5, none⟩ = some (.int .i64 c.I) ∧ W.cell? ⟨g, 6, none⟩ = some (.int .i64 c.B) ∧ W.cell? ⟨g, 7, none⟩ = some (.bool c.ws) ∧ W.cell? ⟨g, 8, none⟩ = some (.bool c.cs) ∧ g < W.heap.size ∧ Below w.heap.size w W) ∧ (W.cell? ⟨h, 0, none⟩ = some (.int .i64 a) ∧ W.cell? ⟨h, 1, none⟩ = some (.int .i64 b) ∧ h < W.heap.size)) ∧ W.frozen? ⟨g, 7, none⟩ = false) : ((W'.cell? ⟨g, 0, none⟩ = some (.int .i64 c.W) ∧ W'.cell? ⟨g, 1, none⟩ = some (.int .i64 c.H) ∧ W'.cell? ⟨g, 2, none⟩ = some (.int .i64 c.L) ∧ W'.cell? ⟨g, 3, none⟩ = some (.int .i64 c.D) ∧ W'.cell? ⟨g, 4, none⟩ = some (.int .i64 c.R) ∧ W'.cell? ⟨g, 5, none⟩ = some (.int .i64 c.I) ∧ W'.cell? ⟨g, 6, none⟩ = some (.int .i64 c.B) ∧ W'.cell? ⟨g, 7, none⟩ = some (.bool c.ws) ∧ W'.cell? ⟨g, 8, none⟩ = some (.bool c.cs) ∧ g < W'.heap.size ∧ Below w.heap.size w W') ∧ (W'.cell? ⟨h, 0, none⟩ = some (.int .i64 a) ∧ W'.cell? ⟨h, 1, none⟩ = some (.int .i64 b) ∧ h < W'.heap.size)) ∧ W'.frozen? ⟨g, 7, none⟩ = false :=
  ⟨keepSE2 hb H.1, (hb.frozen (by exact H.1.1.2.2.2.2.2.2.2.2.2.1)).trans H.2⟩
theorem keepSFR {c : Cfg} {g : Nat} {A : Option Addr} {ws : List Int} {w W W' : World} (hb : Below W.heap.size W W') (H : (W.cell? ⟨g, 0, none⟩ = some (.int .i64 c.W) ∧ W.cell? ⟨g, 1, none⟩ = some (.int .i64 c.H) ∧ W.cell? ⟨g, 2, none⟩ = some (.int .i64 c.L) ∧ W.cell? ⟨g, 3, none⟩ = some (.int .i64 c.D) ∧ W.cell? ⟨g, 4, none⟩ = some (.int .i64 c.R) ∧ W.cell? ⟨g, 5, none⟩ = some (.int .i64 c.I) ∧ W.cell? ⟨g, 6, none⟩ = some (.int .i64 c.B) ∧ W.cell? ⟨g, 7, none⟩ = some (.bool c.ws) ∧ W.cell? ⟨g, 8, none⟩ = some (.bool c.cs) ∧ g < W.heap.size ∧ Below w.heap.size w W) ∧ (W.frozen? ⟨g, 7, none⟩ = false ∧ Rd W A ws)) : (W'.cell? ⟨g, 0, none⟩ = some (.int .i64 c.W) ∧ W'.cell? ⟨g, 1, none⟩ = some (.int .i64 c.H) ∧ W'.cell? ⟨g, 2, none⟩ = some (.int .i64 c.L) ∧ W'.cell? ⟨g, 3, none⟩ = some (.int .i64 c.D) ∧ W'.cell? ⟨g, 4, none⟩ = some (.int .i64 c.R) ∧ W'.cell? ⟨g, 5, none⟩ = some (.int .i64 c.I) ∧ W'.cell? ⟨g, 6, none⟩ = some (.int .i64 c.B) ∧ W'.cell? ⟨g, 7, none⟩ = some (.bool c.ws) ∧ W'.cell? ⟨g, 8, none⟩ = some (.bool c.cs) ∧ g < W'.heap.size ∧ Below w.heap.size w W') ∧ (W'.frozen? ⟨g, 7, none⟩ = false ∧ Rd W' A ws) :=
  ⟨keepS hb H.1, (hb.frozen (by exact H.1.2.2.2.2.2.2.2.2.2.1)).trans H.2.1, H.2.2.below hb⟩
theorem f28_n (A B : Option Addr) (ca cb : Nat) (xs : List Int) (N1 : Nat) (hN : xs.length = N1) (h1 : N1 ≤ 1000) (w : World) (ha : Rd w A xs) (hb : Rd w B xs) :
    Calls Try.prog 28 #[.slice A N1 ca, .slice B N1 cb] w fun e w' => e = .returned (.bool true) ∧ Below w.heap.size w w' := by
  subst hN
  exact f28_eq A B ca cb xs (by omega) w ha hb
theorem f28_S {W : World} {P R : Prop} {A B : Option Addr} {xs : List Int} (H : P ∧ (R ∧ Rd W B xs)) (ca cb : Nat) (N1 : Nat) (hN : xs.length = N1) (h1 : N1 ≤ 1000) (ha : Rd W A xs) :
    Calls Try.prog 28 #[.slice A N1 ca, .slice B N1 cb] W fun e w' => e = .returned (.bool true) ∧ Below W.heap.size W w' :=
  f28_n A B ca cb xs N1 hN h1 W ha H.2.2
theorem f75_T {c : Cfg} {g : Nat} {w W : World} (H : W.cell? ⟨g, 0, none⟩ = some (.int .i64 c.W) ∧ W.cell? ⟨g, 1, none⟩ = some (.int .i64 c.H) ∧ W.cell? ⟨g, 2, none⟩ = some (.int .i64 c.L) ∧ W.cell? ⟨g, 3, none⟩ = some (.int .i64 c.D) ∧ W.cell? ⟨g, 4, none⟩ = some (.int .i64 c.R) ∧ W.cell? ⟨g, 5, none⟩ = some (.int .i64 c.I) ∧ W.cell? ⟨g, 6, none⟩ = some (.int .i64 c.B) ∧ W.cell? ⟨g, 7, none⟩ = some (.bool c.ws) ∧ W.cell? ⟨g, 8, none⟩ = some (.bool c.cs) ∧ g < W.heap.size ∧ Below w.heap.size w W) (a b : Int) (A : Option Addr) (cap : Nat) (ch ws : List Int) (n N1 : Nat) (hn : ch.length = n) (hws : wayP c a b ch = ws) (hN : ws.length = N1) (hm : n ≤ 9223372036854775807) (hch : ∀ x ∈ ch, In64 x) (hr : Rd w A ch) :
    Calls Try.prog 75 #[cv c, .int .i64 a, .int .i64 b, .slice A n cap] W fun e w' => ∃ A' cap', e = .returned (.slice A' N1 cap') ∧ Rd w' A' ws ∧ N1 ≤ cap' ∧ Below W.heap.size W w' :=
  f75_is W c a b A cap ch ws n N1 hn hws hN hm hch (hr.below (sB (c := c) H))

set_option maxHeartbeats 1000000 in
set_option maxRecDepth 20000 in
theorem law22_some (w : World) (c : Cfg) (a b : Int) (ad : Addr) (xs : List Int) (cap : Nat) (hw : ∀ x ∈ xs, In64 x) (hl : xs.length ≤ cap) (hm : cap ≤ 9223372036854775807) (hrA : Rd w (some ad) xs) :
    Calls Try.prog 22 #[cv c, .agg #[.int .i64 a, .int .i64 b], .slice (some ad) xs.length cap] w fun e w' => e = .returned (.bool true) ∧ Below w.heap.size w w' := by
  have HRA : Hd (Rd w (some ad) (fewP xs)) := ⟨rd_take 20 hrA⟩
  have HIN := Hd.mk (few_in hw)
  clear hrA hw
  go_enter Try.func22, Try.ntmps22
  go_wp2_with fail
  refine (f68_any _).mono ?_
  rintro e w1 ⟨rfl, hb1⟩
  have S1 := keepS hb1 (allocS _ (s0 c w))
  have E1 := keepE2 hb1 (e0_2 a b (h := w.heap.size + 1) _ (by simp))
  have F1 := keepF hb1 (by simp; omega) (allocF _ (by simp) (fz0 c w))
  clear hb1
  go_wp2_with fail
  refine (f31_sm c _).mono ?_
  rintro e w2 ⟨s, hsm, rfl, hb2⟩
  have S2 := keepS hb2 S1
  have E2 := keepE2 hb2 E1
  have F2 := keepF hb2 S1.2.2.2.2.2.2.2.2.2.1 F1
  clear hb2 S1 E1 F1
  go_wp2_with fail
  have S3 := storesS (s := s) (Nat.le_refl _) S2
  have E3 := storesE2 (s := s) (g := w.heap.size) (by omega) E2
  have F3 := storesF (s := s) F2
  clear S2 E2 F2
  generalize (((((((((w2.setCell ⟨w.heap.size, 0, none⟩ (.int .i64 s.W)).setCell ⟨w.heap.size, 1, none⟩ (.int .i64 s.H)).setCell ⟨w.heap.size, 2, none⟩ (.int .i64 s.L)).setCell ⟨w.heap.size, 3, none⟩ (.int .i64 s.D)).setCell ⟨w.heap.size, 4, none⟩ (.int .i64 s.R)).setCell ⟨w.heap.size, 5, none⟩ (.int .i64 s.I)).setCell ⟨w.heap.size, 6, none⟩ (.int .i64 s.B)).setCell ⟨w.heap.size, 7, none⟩ (.bool s.ws)).setCell ⟨w.heap.size, 8, none⟩ (.bool s.cs)) = w3 at S3 E3 F3 ⊢
  have T3 := And.intro (And.intro S3 E3) F3.2.2.2.2.2.2.2.1
  clear S3 E3 F3
  obtain ⟨u, HU⟩ : ∃ z, Hd (nodeP s a = z) := ⟨_, ⟨rfl⟩⟩
  have HBu : Hd (isB s u = true) := ⟨by have h := nodeP_is hsm.ok a; rw [HU.out] at h; exact h⟩
  obtain ⟨v, HV⟩ : ∃ z, Hd (nodeP s b = z) := ⟨_, ⟨rfl⟩⟩
  have HBv : Hd (isB s v = true) := ⟨by have h := nodeP_is hsm.ok b; rw [HV.out] at h; exact h⟩
  obtain ⟨F, hF⟩ : ∃ F : Nat, farP s u v = (F : Int) := ⟨(farP s u v).toNat, by have := (far_bd HBu.out HBv.out).1; omega⟩
  have hF2 : F ≤ 126 := by have := (far_bd HBu.out HBv.out).2; omega
  obtain ⟨l, HL⟩ : ∃ z, Hd (fewP xs = z) := ⟨_, ⟨rfl⟩⟩
  obtain ⟨nl, HNL⟩ : ∃ z, Hd (l.length = z) := ⟨_, ⟨rfl⟩⟩
  have hnl : nl ≤ 20 := by rw [← HNL.out, ← HL.out]; exact few_len xs
  obtain ⟨ws, HWS⟩ : ∃ z, Hd (wayP s u v l = z) := ⟨_, ⟨rfl⟩⟩
  have HWL : Hd (ws.length = F + 1) := ⟨by rw [← HWS.out, way_len HBu.out HBv.out, hF]; rfl⟩
  obtain ⟨ws0, HWS0⟩ : ∃ z, Hd (wayP s u v [] = z) := ⟨_, ⟨rfl⟩⟩
  have HWL0 : Hd (ws0.length = F + 1) := ⟨by rw [← HWS0.out, way_len HBu.out HBv.out, hF]; rfl⟩
  obtain ⟨wx, HWX⟩ : ∃ z, Hd (wayP (wsx false s) u v l = z) := ⟨_, ⟨rfl⟩⟩
  have HWXL : Hd (wx.length = F + 1) := ⟨by rw [← HWX.out, way_len (c := wsx false s) HBu.out HBv.out, show farP (wsx false s) u v = farP s u v from rfl, hF]; rfl⟩
  have HWX0 : Hd (wayP (wsx false s) u v [] = wx) := ⟨by rw [← HWX.out]; exact way_xf [] l HBu.out HBv.out⟩
  have HCUT : Hd (∀ n, n = min (F + 1) nl → wayP s u v (l.take n) = ws ∧ (l.take n).length = n) := ⟨fun n hn => by
    refine ⟨?_, by rw [List.length_take, HNL.out]; omega⟩
    rw [← HWS.out]
    refine way_cut HBu.out HBv.out n ?_
    rw [HWS.out, HWL.out, HNL.out]; exact hn⟩
  clear hF
  have HT4 := Hd.mk T3
  clear T3
  go_region_held3 (fun W => ((W.cell? ⟨w.heap.size, 0, none⟩ = some (.int .i64 s.W) ∧ W.cell? ⟨w.heap.size, 1, none⟩ = some (.int .i64 s.H) ∧ W.cell? ⟨w.heap.size, 2, none⟩ = some (.int .i64 s.L) ∧ W.cell? ⟨w.heap.size, 3, none⟩ = some (.int .i64 s.D) ∧ W.cell? ⟨w.heap.size, 4, none⟩ = some (.int .i64 s.R) ∧ W.cell? ⟨w.heap.size, 5, none⟩ = some (.int .i64 s.I) ∧ W.cell? ⟨w.heap.size, 6, none⟩ = some (.int .i64 s.B) ∧ W.cell? ⟨w.heap.size, 7, none⟩ = some (.bool s.ws) ∧ W.cell? ⟨w.heap.size, 8, none⟩ = some (.bool s.cs) ∧ w.heap.size < W.heap.size ∧ Below w.heap.size w W) ∧ (W.cell? ⟨w.heap.size + 1, 0, none⟩ = some (.int .i64 a) ∧ W.cell? ⟨w.heap.size + 1, 1, none⟩ = some (.int .i64 b) ∧ w.heap.size + 1 < W.heap.size)) ∧ W.frozen? ⟨w.heap.size, 7, none⟩ = false) (first | exact ⟨⟨dS HT4.out.1.1, HT4.out.1.2⟩, HT4.out.2⟩ | exact keepSEF (by assumption) (by assumption))
    (first | (go_at_call 32; (with_reducible refine (f32_is s a u hsm.ok HU.out _).mono ?_); rintro e wq ⟨rfl, hbq⟩) | (go_at_call 32; (with_reducible refine (f32_is s b v hsm.ok HV.out _).mono ?_); rintro e wq ⟨rfl, hbq⟩))
  rename_i T4
  clear HT4
  go_wp2_with fail
  refine (f74_b (some ad) cap xs nl (by rw [HL.out]; exact HNL.out) hl hm (fun h => by cases h) _).mono ?_
  rintro e w5 ⟨rfl, hb5⟩
  have S5 := keepS hb5 T4.1.1
  have F5 := (hb5.frozen (p := ⟨w.heap.size, 7, none⟩) T4.1.1.2.2.2.2.2.2.2.2.2.1).trans T4.2
  clear hb5 T4
  go_wp2_with fail
  refine (f75_T (c := s) S5 u v (some ad) cap l ws nl (F + 1) HNL.out HWS.out HWL.out (by omega) (by rw [← HL.out]; exact HIN.out) (by rw [← HL.out]; exact HRA.out)).mono ?_
  rintro e w6 ⟨A9, c9, rfl, hrd6, hc9, hb6⟩
  have T6 := And.intro (keepS hb6 S5) (And.intro ((hb6.frozen (p := ⟨w.heap.size, 7, none⟩) S5.2.2.2.2.2.2.2.2.2.1).trans F5) hrd6)
  clear hb6 S5 F5 hrd6
  by_cases hcm : nl < F + 1
  · have hcm' : (nl : Int) < (F : Int) + 1 := by omega
    obtain ⟨hcw, hcl⟩ := HCUT.out nl (by omega)
    have HCW := Hd.mk hcw
    have HCL := Hd.mk hcl
    have HRC : Hd (Rd w (some ad) (l.take nl)) := ⟨rd_take _ (by rw [← HL.out]; exact HRA.out)⟩
    have HIC : Hd (∀ x ∈ l.take nl, In64 x) := ⟨fun x hx => HIN.out x (by rw [HL.out]; exact List.mem_of_mem_take hx)⟩
    clear hcw hcl
    have i0 : (0 : Int) ≤ (nl : Int) := by omega
    have i1 : (nl : Int) ≤ (cap : Int) := by have h1 := HNL.out; rw [← HL.out] at h1; unfold fewP at h1; rw [List.length_take] at h1; omega
    go_wp2_with fail
    have HT8 := Hd.mk T6
    clear T6
    go_region_held3 (fun W => (W.cell? ⟨w.heap.size, 0, none⟩ = some (.int .i64 s.W) ∧ W.cell? ⟨w.heap.size, 1, none⟩ = some (.int .i64 s.H) ∧ W.cell? ⟨w.heap.size, 2, none⟩ = some (.int .i64 s.L) ∧ W.cell? ⟨w.heap.size, 3, none⟩ = some (.int .i64 s.D) ∧ W.cell? ⟨w.heap.size, 4, none⟩ = some (.int .i64 s.R) ∧ W.cell? ⟨w.heap.size, 5, none⟩ = some (.int .i64 s.I) ∧ W.cell? ⟨w.heap.size, 6, none⟩ = some (.int .i64 s.B) ∧ W.cell? ⟨w.heap.size, 7, none⟩ = some (.bool s.ws) ∧ W.cell? ⟨w.heap.size, 8, none⟩ = some (.bool s.cs) ∧ w.heap.size < W.heap.size ∧ Below w.heap.size w W) ∧ (W.frozen? ⟨w.heap.size, 7, none⟩ = false ∧ Rd W A9 ws)) (first | exact ⟨dS HT8.out.1, HT8.out.2⟩ | exact keepSFR (by assumption) (by assumption))
      (first | (go_at_call 75; (with_reducible refine (f75_S (c := s) (g := w.heap.size) (w := w) (by assumption) u v (some ad) cap (l.take nl) ws nl (F + 1) HCL.out HCW.out HWL.out (by omega) HIC.out HRC.out).mono ?_); rintro e wc ⟨A1, c1, rfl, hrd1, hc1, hbq⟩; have HC1 := Hd.mk hrd1; clear hrd1) | (go_at_call 75; (with_reducible refine (f75_0 _ s u v ws0 (F + 1) HWS0.out HWL0.out).mono ?_); rintro e wc ⟨A0, c0, rfl, hrd0, hc0, hbq⟩) | (go_at_call 28; (with_reducible refine (f28_S (by assumption) c1 c9 (F + 1) HWL.out (by omega) HC1.out).mono ?_); rintro e we ⟨rfl, hbq⟩))
    rename_i T8
    clear HT8
    have S8 := T8.1
    have F8 := T8.2.1
    have hzz := S8.2.2.2.2.2.2.2.2.2.1
    clear T8
    go_wp2_with fail
    have HINL : Hd (∀ x ∈ l, In64 x) := ⟨by rw [← HL.out]; exact HIN.out⟩
    have HRAL : Hd (Rd w (some ad) l) := ⟨by rw [← HL.out]; exact HRA.out⟩
    have HS9 := Hd.mk (set7X (c := s) false (Nat.le_refl _) S8)
    clear S8 F8
    go_region_held3 (fun W => W.cell? ⟨w.heap.size, 0, none⟩ = some (.int .i64 (wsx false s).W) ∧ W.cell? ⟨w.heap.size, 1, none⟩ = some (.int .i64 (wsx false s).H) ∧ W.cell? ⟨w.heap.size, 2, none⟩ = some (.int .i64 (wsx false s).L) ∧ W.cell? ⟨w.heap.size, 3, none⟩ = some (.int .i64 (wsx false s).D) ∧ W.cell? ⟨w.heap.size, 4, none⟩ = some (.int .i64 (wsx false s).R) ∧ W.cell? ⟨w.heap.size, 5, none⟩ = some (.int .i64 (wsx false s).I) ∧ W.cell? ⟨w.heap.size, 6, none⟩ = some (.int .i64 (wsx false s).B) ∧ W.cell? ⟨w.heap.size, 7, none⟩ = some (.bool (wsx false s).ws) ∧ W.cell? ⟨w.heap.size, 8, none⟩ = some (.bool (wsx false s).cs) ∧ w.heap.size < W.heap.size ∧ Below w.heap.size w W) (first | exact dS (c := wsx false s) HS9.out | exact keepS (c := wsx false s) (by assumption) (by assumption))
      (first | (go_at_call 75; (with_reducible refine (f75_T (c := wsx false s) (g := w.heap.size) (w := w) (by assumption) u v (some ad) cap l wx nl (F + 1) HNL.out HWX.out HWXL.out (by omega) HINL.out HRAL.out).mono ?_); rintro e wc ⟨A1, c1, rfl, hrd1, hc1, hbq⟩; have HC1 := Hd.mk hrd1; clear hrd1) | (go_at_call 75; (with_reducible refine (f75_0 _ (wsx false s) u v wx (F + 1) HWX0.out HWXL.out).mono ?_); rintro e wc ⟨A2, c2, rfl, hrd2, hc2, hbq⟩; have HC2 := Hd.mk hrd2; have HC1b := Hd.mk (Rd.below HC1.out hbq); clear hrd2) | (go_at_call 28; (with_reducible refine (f28_n A1 A2 c1 c2 wx (F + 1) HWXL.out (by omega) _ HC1b.out HC2.out).mono ?_); rintro e we ⟨rfl, hbq⟩))
    rename_i S10
    clear HS9
    go_wp2
    go_ret
    exact ⟨rfl, sB (c := wsx false s) S10⟩
  · have hcm' : (F : Int) + 1 ≤ (nl : Int) := by omega
    obtain ⟨hcw, hcl⟩ := HCUT.out (F + 1) (by omega)
    have HCW := Hd.mk hcw
    have HCL := Hd.mk hcl
    have HRC : Hd (Rd w (some ad) (l.take (F + 1))) := ⟨rd_take _ (by rw [← HL.out]; exact HRA.out)⟩
    have HIC : Hd (∀ x ∈ l.take (F + 1), In64 x) := ⟨fun x hx => HIN.out x (by rw [HL.out]; exact List.mem_of_mem_take hx)⟩
    clear hcw hcl
    have i0 : (0 : Int) ≤ ((F : Int) + 1) := by omega
    have i1 : ((F : Int) + 1) ≤ (cap : Int) := by have h1 := HNL.out; rw [← HL.out] at h1; unfold fewP at h1; rw [List.length_take] at h1; omega
    go_wp2_with fail
    have HT8 := Hd.mk T6
    clear T6
    go_region_held3 (fun W => (W.cell? ⟨w.heap.size, 0, none⟩ = some (.int .i64 s.W) ∧ W.cell? ⟨w.heap.size, 1, none⟩ = some (.int .i64 s.H) ∧ W.cell? ⟨w.heap.size, 2, none⟩ = some (.int .i64 s.L) ∧ W.cell? ⟨w.heap.size, 3, none⟩ = some (.int .i64 s.D) ∧ W.cell? ⟨w.heap.size, 4, none⟩ = some (.int .i64 s.R) ∧ W.cell? ⟨w.heap.size, 5, none⟩ = some (.int .i64 s.I) ∧ W.cell? ⟨w.heap.size, 6, none⟩ = some (.int .i64 s.B) ∧ W.cell? ⟨w.heap.size, 7, none⟩ = some (.bool s.ws) ∧ W.cell? ⟨w.heap.size, 8, none⟩ = some (.bool s.cs) ∧ w.heap.size < W.heap.size ∧ Below w.heap.size w W) ∧ (W.frozen? ⟨w.heap.size, 7, none⟩ = false ∧ Rd W A9 ws)) (first | exact ⟨dS HT8.out.1, HT8.out.2⟩ | exact keepSFR (by assumption) (by assumption))
      (first | (go_at_call 75; (with_reducible refine (f75_S (c := s) (g := w.heap.size) (w := w) (by assumption) u v (some ad) cap (l.take (F + 1)) ws (F + 1) (F + 1) HCL.out HCW.out HWL.out (by omega) HIC.out HRC.out).mono ?_); rintro e wc ⟨A1, c1, rfl, hrd1, hc1, hbq⟩; have HC1 := Hd.mk hrd1; clear hrd1) | (go_at_call 75; (with_reducible refine (f75_0 _ s u v ws0 (F + 1) HWS0.out HWL0.out).mono ?_); rintro e wc ⟨A0, c0, rfl, hrd0, hc0, hbq⟩) | (go_at_call 28; (with_reducible refine (f28_S (by assumption) c1 c9 (F + 1) HWL.out (by omega) HC1.out).mono ?_); rintro e we ⟨rfl, hbq⟩))
    rename_i T8
    clear HT8
    have S8 := T8.1
    have F8 := T8.2.1
    have hzz := S8.2.2.2.2.2.2.2.2.2.1
    clear T8
    go_wp2_with fail
    have HINL : Hd (∀ x ∈ l, In64 x) := ⟨by rw [← HL.out]; exact HIN.out⟩
    have HRAL : Hd (Rd w (some ad) l) := ⟨by rw [← HL.out]; exact HRA.out⟩
    have HS9 := Hd.mk (set7X (c := s) false (Nat.le_refl _) S8)
    clear S8 F8
    go_region_held3 (fun W => W.cell? ⟨w.heap.size, 0, none⟩ = some (.int .i64 (wsx false s).W) ∧ W.cell? ⟨w.heap.size, 1, none⟩ = some (.int .i64 (wsx false s).H) ∧ W.cell? ⟨w.heap.size, 2, none⟩ = some (.int .i64 (wsx false s).L) ∧ W.cell? ⟨w.heap.size, 3, none⟩ = some (.int .i64 (wsx false s).D) ∧ W.cell? ⟨w.heap.size, 4, none⟩ = some (.int .i64 (wsx false s).R) ∧ W.cell? ⟨w.heap.size, 5, none⟩ = some (.int .i64 (wsx false s).I) ∧ W.cell? ⟨w.heap.size, 6, none⟩ = some (.int .i64 (wsx false s).B) ∧ W.cell? ⟨w.heap.size, 7, none⟩ = some (.bool (wsx false s).ws) ∧ W.cell? ⟨w.heap.size, 8, none⟩ = some (.bool (wsx false s).cs) ∧ w.heap.size < W.heap.size ∧ Below w.heap.size w W) (first | exact dS (c := wsx false s) HS9.out | exact keepS (c := wsx false s) (by assumption) (by assumption))
      (first | (go_at_call 75; (with_reducible refine (f75_T (c := wsx false s) (g := w.heap.size) (w := w) (by assumption) u v (some ad) cap l wx nl (F + 1) HNL.out HWX.out HWXL.out (by omega) HINL.out HRAL.out).mono ?_); rintro e wc ⟨A1, c1, rfl, hrd1, hc1, hbq⟩; have HC1 := Hd.mk hrd1; clear hrd1) | (go_at_call 75; (with_reducible refine (f75_0 _ (wsx false s) u v wx (F + 1) HWX0.out HWXL.out).mono ?_); rintro e wc ⟨A2, c2, rfl, hrd2, hc2, hbq⟩; have HC2 := Hd.mk hrd2; have HC1b := Hd.mk (Rd.below HC1.out hbq); clear hrd2) | (go_at_call 28; (with_reducible refine (f28_n A1 A2 c1 c2 wx (F + 1) HWXL.out (by omega) _ HC1b.out HC2.out).mono ?_); rintro e we ⟨rfl, hbq⟩))
    rename_i S10
    clear HS9
    go_wp2
    go_ret
    exact ⟨rfl, sB (c := wsx false s) S10⟩

set_option maxHeartbeats 1000000 in
set_option maxRecDepth 20000 in
theorem law22_none (c : Cfg) (a b : Int) (w : World) :
    Calls Try.prog 22 #[cv c, .agg #[.int .i64 a, .int .i64 b], .slice none 0 0] w fun e w' => e = .returned (.bool true) ∧ Below w.heap.size w w' := by
  go_enter Try.func22, Try.ntmps22
  go_wp2_with fail
  refine (f68_any _).mono ?_
  rintro e w1 ⟨rfl, hb1⟩
  have S1 := keepS hb1 (allocS _ (s0 c w))
  have E1 := keepE2 hb1 (e0_2 a b (h := w.heap.size + 1) _ (by simp))
  have F1 := keepF hb1 (by simp; omega) (allocF _ (by simp) (fz0 c w))
  clear hb1
  go_wp2_with fail
  refine (f31_sm c _).mono ?_
  rintro e w2 ⟨s, hsm, rfl, hb2⟩
  have S2 := keepS hb2 S1
  have E2 := keepE2 hb2 E1
  have F2 := keepF hb2 S1.2.2.2.2.2.2.2.2.2.1 F1
  clear hb2 S1 E1 F1
  go_wp2_with fail
  have S3 := storesS (s := s) (Nat.le_refl _) S2
  have E3 := storesE2 (s := s) (g := w.heap.size) (by omega) E2
  have F3 := storesF (s := s) F2
  clear S2 E2 F2
  generalize (((((((((w2.setCell ⟨w.heap.size, 0, none⟩ (.int .i64 s.W)).setCell ⟨w.heap.size, 1, none⟩ (.int .i64 s.H)).setCell ⟨w.heap.size, 2, none⟩ (.int .i64 s.L)).setCell ⟨w.heap.size, 3, none⟩ (.int .i64 s.D)).setCell ⟨w.heap.size, 4, none⟩ (.int .i64 s.R)).setCell ⟨w.heap.size, 5, none⟩ (.int .i64 s.I)).setCell ⟨w.heap.size, 6, none⟩ (.int .i64 s.B)).setCell ⟨w.heap.size, 7, none⟩ (.bool s.ws)).setCell ⟨w.heap.size, 8, none⟩ (.bool s.cs)) = w3 at S3 E3 F3 ⊢
  have T3 := And.intro (And.intro S3 E3) F3.2.2.2.2.2.2.2.1
  clear S3 E3 F3
  obtain ⟨u, HU⟩ : ∃ z, Hd (nodeP s a = z) := ⟨_, ⟨rfl⟩⟩
  have HBu : Hd (isB s u = true) := ⟨by have h := nodeP_is hsm.ok a; rw [HU.out] at h; exact h⟩
  obtain ⟨v, HV⟩ : ∃ z, Hd (nodeP s b = z) := ⟨_, ⟨rfl⟩⟩
  have HBv : Hd (isB s v = true) := ⟨by have h := nodeP_is hsm.ok b; rw [HV.out] at h; exact h⟩
  obtain ⟨F, hF⟩ : ∃ F : Nat, farP s u v = (F : Int) := ⟨(farP s u v).toNat, by have := (far_bd HBu.out HBv.out).1; omega⟩
  have hF2 : F ≤ 126 := by have := (far_bd HBu.out HBv.out).2; omega
  obtain ⟨l, HL⟩ : ∃ z, Hd (([] : List Int) = z) := ⟨_, ⟨rfl⟩⟩
  obtain ⟨nl, HNL⟩ : ∃ z, Hd (l.length = z) := ⟨_, ⟨rfl⟩⟩
  have hnl : nl ≤ 20 := by rw [← HNL.out, ← HL.out]; simp
  obtain ⟨ws, HWS⟩ : ∃ z, Hd (wayP s u v l = z) := ⟨_, ⟨rfl⟩⟩
  have HWL : Hd (ws.length = F + 1) := ⟨by rw [← HWS.out, way_len HBu.out HBv.out, hF]; rfl⟩
  obtain ⟨ws0, HWS0⟩ : ∃ z, Hd (wayP s u v [] = z) := ⟨_, ⟨rfl⟩⟩
  have HWL0 : Hd (ws0.length = F + 1) := ⟨by rw [← HWS0.out, way_len HBu.out HBv.out, hF]; rfl⟩
  obtain ⟨wx, HWX⟩ : ∃ z, Hd (wayP (wsx false s) u v l = z) := ⟨_, ⟨rfl⟩⟩
  have HWXL : Hd (wx.length = F + 1) := ⟨by rw [← HWX.out, way_len (c := wsx false s) HBu.out HBv.out, show farP (wsx false s) u v = farP s u v from rfl, hF]; rfl⟩
  have HWX0 : Hd (wayP (wsx false s) u v [] = wx) := ⟨by rw [← HWX.out]; exact way_xf [] l HBu.out HBv.out⟩
  have HCUT : Hd (∀ n, n = min (F + 1) nl → wayP s u v (l.take n) = ws ∧ (l.take n).length = n) := ⟨fun n hn => by
    refine ⟨?_, by rw [List.length_take, HNL.out]; omega⟩
    rw [← HWS.out]
    refine way_cut HBu.out HBv.out n ?_
    rw [HWS.out, HWL.out, HNL.out]; exact hn⟩
  clear hF
  have HT4 := Hd.mk T3
  clear T3
  go_region_held3 (fun W => ((W.cell? ⟨w.heap.size, 0, none⟩ = some (.int .i64 s.W) ∧ W.cell? ⟨w.heap.size, 1, none⟩ = some (.int .i64 s.H) ∧ W.cell? ⟨w.heap.size, 2, none⟩ = some (.int .i64 s.L) ∧ W.cell? ⟨w.heap.size, 3, none⟩ = some (.int .i64 s.D) ∧ W.cell? ⟨w.heap.size, 4, none⟩ = some (.int .i64 s.R) ∧ W.cell? ⟨w.heap.size, 5, none⟩ = some (.int .i64 s.I) ∧ W.cell? ⟨w.heap.size, 6, none⟩ = some (.int .i64 s.B) ∧ W.cell? ⟨w.heap.size, 7, none⟩ = some (.bool s.ws) ∧ W.cell? ⟨w.heap.size, 8, none⟩ = some (.bool s.cs) ∧ w.heap.size < W.heap.size ∧ Below w.heap.size w W) ∧ (W.cell? ⟨w.heap.size + 1, 0, none⟩ = some (.int .i64 a) ∧ W.cell? ⟨w.heap.size + 1, 1, none⟩ = some (.int .i64 b) ∧ w.heap.size + 1 < W.heap.size)) ∧ W.frozen? ⟨w.heap.size, 7, none⟩ = false) (first | exact ⟨⟨dS HT4.out.1.1, HT4.out.1.2⟩, HT4.out.2⟩ | exact keepSEF (by assumption) (by assumption))
    (first | (go_at_call 32; (with_reducible refine (f32_is s a u hsm.ok HU.out _).mono ?_); rintro e wq ⟨rfl, hbq⟩) | (go_at_call 32; (with_reducible refine (f32_is s b v hsm.ok HV.out _).mono ?_); rintro e wq ⟨rfl, hbq⟩))
  rename_i T4
  clear HT4
  go_wp2_with fail
  refine (f74_none _).mono ?_
  rintro e w5 ⟨rfl, rfl⟩
  have hb5 := Below.refl wq.heap.size wq
  have S5 := keepS hb5 T4.1.1
  have F5 := (hb5.frozen (p := ⟨w.heap.size, 7, none⟩) T4.1.1.2.2.2.2.2.2.2.2.2.1).trans T4.2
  clear hb5 T4
  go_wp2_with fail
  refine (f75_0 _ s u v ws (F + 1) (by rw [← HWS.out, ← HL.out]) HWL.out).mono ?_
  rintro e w6 ⟨A9, c9, rfl, hrd6, hc9, hb6⟩
  have T6 := And.intro (keepS hb6 S5) (And.intro ((hb6.frozen (p := ⟨w.heap.size, 7, none⟩) S5.2.2.2.2.2.2.2.2.2.1).trans F5) hrd6)
  clear hb6 S5 F5 hrd6
  obtain rfl : nl = 0 := by rw [← HNL.out, ← HL.out]; rfl
  have HWSN : Hd (wayP s u v [] = ws) := ⟨by rw [← HWS.out, ← HL.out]⟩
  go_wp2_with fail
  have HT8 := Hd.mk T6
  clear T6
  go_region_held3 (fun W => (W.cell? ⟨w.heap.size, 0, none⟩ = some (.int .i64 s.W) ∧ W.cell? ⟨w.heap.size, 1, none⟩ = some (.int .i64 s.H) ∧ W.cell? ⟨w.heap.size, 2, none⟩ = some (.int .i64 s.L) ∧ W.cell? ⟨w.heap.size, 3, none⟩ = some (.int .i64 s.D) ∧ W.cell? ⟨w.heap.size, 4, none⟩ = some (.int .i64 s.R) ∧ W.cell? ⟨w.heap.size, 5, none⟩ = some (.int .i64 s.I) ∧ W.cell? ⟨w.heap.size, 6, none⟩ = some (.int .i64 s.B) ∧ W.cell? ⟨w.heap.size, 7, none⟩ = some (.bool s.ws) ∧ W.cell? ⟨w.heap.size, 8, none⟩ = some (.bool s.cs) ∧ w.heap.size < W.heap.size ∧ Below w.heap.size w W) ∧ (W.frozen? ⟨w.heap.size, 7, none⟩ = false ∧ Rd W A9 ws)) (first | exact ⟨dS HT8.out.1, HT8.out.2⟩ | exact keepSFR (by assumption) (by assumption))
    (first | (go_at_call 75; (with_reducible refine (f75_0 _ s u v ws (F + 1) HWSN.out HWL.out).mono ?_); rintro e wc ⟨A1, c1, rfl, hrd1, hc1, hbq⟩; have HC1 := Hd.mk hrd1; clear hrd1) | fail | (go_at_call 28; (with_reducible refine (f28_S (by assumption) c1 c9 (F + 1) HWL.out (by omega) HC1.out).mono ?_); rintro e we ⟨rfl, hbq⟩))
  rename_i T8
  clear HT8
  have S8 := T8.1
  have F8 := T8.2.1
  have hzz := S8.2.2.2.2.2.2.2.2.2.1
  clear T8
  go_wp2_with fail
  have HS9 := Hd.mk (set7X (c := s) false (Nat.le_refl _) S8)
  clear S8 F8
  go_region_held3 (fun W => W.cell? ⟨w.heap.size, 0, none⟩ = some (.int .i64 (wsx false s).W) ∧ W.cell? ⟨w.heap.size, 1, none⟩ = some (.int .i64 (wsx false s).H) ∧ W.cell? ⟨w.heap.size, 2, none⟩ = some (.int .i64 (wsx false s).L) ∧ W.cell? ⟨w.heap.size, 3, none⟩ = some (.int .i64 (wsx false s).D) ∧ W.cell? ⟨w.heap.size, 4, none⟩ = some (.int .i64 (wsx false s).R) ∧ W.cell? ⟨w.heap.size, 5, none⟩ = some (.int .i64 (wsx false s).I) ∧ W.cell? ⟨w.heap.size, 6, none⟩ = some (.int .i64 (wsx false s).B) ∧ W.cell? ⟨w.heap.size, 7, none⟩ = some (.bool (wsx false s).ws) ∧ W.cell? ⟨w.heap.size, 8, none⟩ = some (.bool (wsx false s).cs) ∧ w.heap.size < W.heap.size ∧ Below w.heap.size w W) (first | exact dS (c := wsx false s) HS9.out | exact keepS (c := wsx false s) (by assumption) (by assumption))
    (first | (go_at_call 75; (with_reducible refine (f75_0 _ (wsx false s) u v wx (F + 1) HWX0.out HWXL.out).mono ?_); rintro e wc ⟨A1, c1, rfl, hrd1, hc1, hbq⟩; first | (have HC2 := Hd.mk hrd1; have HC1b := Hd.mk (Rd.below HC1x.out hbq); clear hrd1) | (have HC1x := Hd.mk hrd1; clear hrd1)) | (go_at_call 28; (with_reducible refine (f28_n _ _ _ _ wx (F + 1) HWXL.out (by omega) _ HC1b.out HC2.out).mono ?_); rintro e we ⟨rfl, hbq⟩))
  rename_i S10
  clear HS9
  go_wp2
  go_ret
  exact ⟨rfl, sB (c := wsx false s) S10⟩

theorem law22_calls (c : Cfg) (a b : Int) (_ : -9223372036854775808 ≤ a ∧ a ≤ 9223372036854775807) (_ : -9223372036854775808 ≤ b ∧ b ≤ 9223372036854775807) (A : Option Addr) (xs : List Int) (cap : Nat) (hw : ∀ x ∈ xs, In64 x) (hl : xs.length ≤ cap) (hm : cap ≤ 9223372036854775807) (hA : A = none → cap = 0) (w : World) (hrA : Rd w A xs) :
    Calls Try.prog 22 #[cv c, .agg #[.int .i64 a, .int .i64 b], .slice A xs.length cap] w fun e w' => e = .returned (.bool true) ∧ Below w.heap.size w w' := by
  rcases A with _ | ad
  · obtain rfl := hA rfl
    have h0 : xs.length = 0 := by omega
    rw [h0]
    exact law22_none c a b w
  · exact law22_some w c a b ad xs cap hw hl hm hrA

end Go.Proofs.Ytnbogjiddildaaa
