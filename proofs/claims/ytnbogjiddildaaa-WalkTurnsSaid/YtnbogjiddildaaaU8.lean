/- The walks of the laws WalkFar and WalkChoices. -/
import Derived.Test.YtnbogjiddildaaaU7
namespace Go.Proofs.Ytnbogjiddildaaa
open Go.RowKit
set_option linter.unusedSimpArgs false
set_option linter.unusedVariables false

theorem f75_is (w : World) (c : Cfg) (a b : Int) (A : Option Addr) (cap : Nat) (ch ws : List Int) (n N1 : Nat) (hn : ch.length = n) (hws : wayP c a b ch = ws) (hN : ws.length = N1) (hm : n ≤ 9223372036854775807) (hch : ∀ x ∈ ch, In64 x) (hr : Rd w A ch) :
    Calls Try.prog 75 #[cv c, .int .i64 a, .int .i64 b, .slice A n cap] w fun e w' => ∃ A' cap', e = .returned (.slice A' N1 cap') ∧ Rd w' A' ws ∧ N1 ≤ cap' ∧ Below w.heap.size w w' := by
  subst hn hws hN
  refine (f75_any w c a b A cap ch hm hch hr).mono ?_
  rintro e w' ⟨v, rfl, hrow, hb⟩
  obtain ⟨A', cap', rfl, hc, hrd⟩ := hrow.rd
  exact ⟨A', cap', rfl, hrd, hc, hb⟩
theorem f75_S {c : Cfg} {g : Nat} {w W : World} {Q : Prop} (H : (W.cell? ⟨g, 0, none⟩ = some (.int .i64 c.W) ∧ W.cell? ⟨g, 1, none⟩ = some (.int .i64 c.H) ∧ W.cell? ⟨g, 2, none⟩ = some (.int .i64 c.L) ∧ W.cell? ⟨g, 3, none⟩ = some (.int .i64 c.D) ∧ W.cell? ⟨g, 4, none⟩ = some (.int .i64 c.R) ∧ W.cell? ⟨g, 5, none⟩ = some (.int .i64 c.I) ∧ W.cell? ⟨g, 6, none⟩ = some (.int .i64 c.B) ∧ W.cell? ⟨g, 7, none⟩ = some (.bool c.ws) ∧ W.cell? ⟨g, 8, none⟩ = some (.bool c.cs) ∧ g < W.heap.size ∧ Below w.heap.size w W) ∧ Q) (a b : Int) (A : Option Addr) (cap : Nat) (ch ws : List Int) (n N1 : Nat) (hn : ch.length = n) (hws : wayP c a b ch = ws) (hN : ws.length = N1) (hm : n ≤ 9223372036854775807) (hch : ∀ x ∈ ch, In64 x) (hr : Rd w A ch) :
    Calls Try.prog 75 #[cv c, .int .i64 a, .int .i64 b, .slice A n cap] W fun e w' => ∃ A' cap', e = .returned (.slice A' N1 cap') ∧ Rd w' A' ws ∧ N1 ≤ cap' ∧ Below W.heap.size W w' :=
  f75_is W c a b A cap ch ws n N1 hn hws hN hm hch (hr.below (sB (c := c) H.1))
theorem f75_0 (w : World) (c : Cfg) (a b : Int) (ws : List Int) (N1 : Nat) (hws : wayP c a b [] = ws) (hN : ws.length = N1) :
    Calls Try.prog 75 #[cv c, .int .i64 a, .int .i64 b, .slice none 0 0] w fun e w' => ∃ A' cap', e = .returned (.slice A' N1 cap') ∧ Rd w' A' ws ∧ N1 ≤ cap' ∧ Below w.heap.size w w' :=
  f75_is w c a b none 0 [] ws 0 N1 rfl hws hN (by omega) (fun x hx => by simp at hx) (Rd.nil_ _ _)
theorem f74_b (A : Option Addr) (cap : Nat) (xs : List Int) (n : Nat) (hn : (fewP xs).length = n) (h : xs.length ≤ cap) (hc : cap ≤ 9223372036854775807) (hA : A = none → cap = 0) (w : World) : Calls Try.prog 74 #[.slice A xs.length cap] w fun e w' => e = .returned (.slice A n cap) ∧ Below w.heap.size w w' := by
  subst hn
  refine (f74_any A cap xs h hc hA w).mono ?_
  rintro e w' ⟨rfl, rfl⟩
  exact ⟨rfl, Below.refl _ _⟩
theorem few_in {xs : List Int} (h : ∀ x ∈ xs, In64 x) : ∀ x ∈ fewP xs, In64 x := fun x hx => h x (List.mem_of_mem_take hx)
theorem few_len (xs : List Int) : (fewP xs).length ≤ 20 := by unfold fewP; rw [List.length_take]; omega
theorem ris_of {c : Cfg} {ws ps : List Int} (h : Adj c ws ps) (ht : Tn ps) : Ris c (ws.zip ps) := by
  have hl := h.len
  have hnx : ∀ (i : Nat) (x p : Int), ws[i]? = some x → ps[i]? = some p → ∃ y, ws[i + 1]? = some y ∧ besideP c x p = (y, true) ∧ 1 ≤ p := fun i x p hx hp => by
    have hi : i < ps.length := by
      rcases Nat.lt_or_ge i ps.length with h | h
      · exact h
      · rw [List.getElem?_eq_none h] at hp; cases hp
    have hy : ws[i + 1]? = some (ws[i + 1]'(by omega)) := List.getElem?_eq_getElem (by omega)
    have := h.st i x _ p hx hy hp
    exact ⟨_, hy, this.1, this.2.1⟩
  refine ⟨fun i x hx => ?_, fun i x y hx hy => ?_⟩
  · obtain ⟨h1, h2⟩ := List.getElem?_zip_eq_some.1 hx
    obtain ⟨y, _, h3, h4⟩ := hnx i _ _ h1 h2
    exact ⟨y, h3, h4⟩
  · obtain ⟨h1, h2⟩ := List.getElem?_zip_eq_some.1 hx
    obtain ⟨h3, h4⟩ := List.getElem?_zip_eq_some.1 hy
    obtain ⟨z, z1, z2, z3⟩ := hnx i _ _ h1 h2
    rw [h3] at z1
    injection z1 with z1
    subst z1
    obtain ⟨k, _, k2, k3⟩ := hnx (i + 1) _ _ h3 h4
    exact rank_up z2 k2 z3 k3 (ht i _ _ h2 h4)

set_option maxHeartbeats 1000000 in
set_option maxRecDepth 20000 in
theorem law24_go (w : World) (c : Cfg) (a b : Int) (A : Option Addr) (xs : List Int) (cap : Nat) (hw : ∀ x ∈ xs, In64 x) (hl : xs.length ≤ cap) (hm : cap ≤ 9223372036854775807) (hA : A = none → cap = 0) (hrA : Rd w A xs) :
    Calls Try.prog 24 #[cv c, .agg #[.int .i64 a, .int .i64 b], .slice A xs.length cap] w fun e w' => e = .returned (.bool true) ∧ Below w.heap.size w w' := by
  have HRA : Hd (Rd w A (fewP xs)) := ⟨rd_take 20 hrA⟩
  have HIN := Hd.mk (few_in hw)
  clear hrA hw
  go_enter Try.func24, Try.ntmps24
  go_wp2_with fail
  refine (f68_any _).mono ?_
  rintro e w1 ⟨rfl, hb1⟩
  have S1 := keepS hb1 (allocS _ (s0 c w))
  have E1 := keepE2 hb1 (e0_2 a b (h := w.heap.size + 1) _ (by simp))
  have F1 := keepF hb1 (by simp; omega) (allocF _ (by simp) (fz0 c w))
  clear hb1
  go_wp2_with fail
  refine (f31_sm c _).mono ?_
  rintro e w2 ⟨s, hsm, rfl, hb2⟩
  have S2 := keepS hb2 S1
  have E2 := keepE2 hb2 E1
  have F2 := keepF hb2 S1.2.2.2.2.2.2.2.2.2.1 F1
  clear hb2 S1 E1 F1
  go_wp2_with fail
  have S3 := storesS (s := s) (Nat.le_refl _) S2
  have E3 := storesE2 (s := s) (g := w.heap.size) (by omega) E2
  clear S2 E2 F2
  generalize (((((((((w2.setCell ⟨w.heap.size, 0, none⟩ (.int .i64 s.W)).setCell ⟨w.heap.size, 1, none⟩ (.int .i64 s.H)).setCell ⟨w.heap.size, 2, none⟩ (.int .i64 s.L)).setCell ⟨w.heap.size, 3, none⟩ (.int .i64 s.D)).setCell ⟨w.heap.size, 4, none⟩ (.int .i64 s.R)).setCell ⟨w.heap.size, 5, none⟩ (.int .i64 s.I)).setCell ⟨w.heap.size, 6, none⟩ (.int .i64 s.B)).setCell ⟨w.heap.size, 7, none⟩ (.bool s.ws)).setCell ⟨w.heap.size, 8, none⟩ (.bool s.cs)) = w3 at S3 E3 ⊢
  have T3 := And.intro S3 E3
  clear S3 E3
  obtain ⟨u, HU⟩ : ∃ z, Hd (nodeP s a = z) := ⟨_, ⟨rfl⟩⟩
  have HBu : Hd (isB s u = true) := ⟨by have h := nodeP_is hsm.ok a; rw [HU.out] at h; exact h⟩
  obtain ⟨v, HV⟩ : ∃ z, Hd (nodeP s b = z) := ⟨_, ⟨rfl⟩⟩
  have HBv : Hd (isB s v = true) := ⟨by have h := nodeP_is hsm.ok b; rw [HV.out] at h; exact h⟩
  obtain ⟨F, hF⟩ : ∃ F : Nat, farP s u v = (F : Int) := ⟨(farP s u v).toNat, by have := (far_bd HBu.out HBv.out).1; omega⟩
  have hF2 : F ≤ 126 := by have := (far_bd HBu.out HBv.out).2; omega
  have HF := Hd.mk hF
  obtain ⟨nl, HNL⟩ : ∃ z, Hd ((fewP xs).length = z) := ⟨_, ⟨rfl⟩⟩
  have hnl : nl ≤ 20 := by rw [← HNL.out]; exact few_len xs
  obtain ⟨ws, HWS⟩ : ∃ z, Hd (wayP s u v (fewP xs) = z) := ⟨_, ⟨rfl⟩⟩
  have HWL : Hd (ws.length = F + 1) := ⟨by rw [← HWS.out, way_len HBu.out HBv.out, hF]; rfl⟩
  obtain ⟨ps, hadj, htn, hlast⟩ := way_adj (fewP xs) HBu.out HBv.out
  rw [HWS.out, hF] at hlast
  rw [HWS.out] at hadj
  have HLAST : Hd (ws[F]? = some v) := ⟨hlast⟩
  have HFST : Hd (ws[0]? = some u) := ⟨by rw [← HWS.out, way_yes HBu.out HBv.out]; rfl⟩
  have HPL : Hd (ps.length = F) := ⟨by have := hadj.len; have := HWL.out; omega⟩
  have HAD := Hd.mk hadj
  clear hadj hlast
  have HRI := Hd.mk (ris_of HAD.out htn)
  clear htn hF
  have HS4 := Hd.mk T3
  clear T3
  go_region_held3 (fun W => (W.cell? ⟨w.heap.size, 0, none⟩ = some (.int .i64 s.W) ∧ W.cell? ⟨w.heap.size, 1, none⟩ = some (.int .i64 s.H) ∧ W.cell? ⟨w.heap.size, 2, none⟩ = some (.int .i64 s.L) ∧ W.cell? ⟨w.heap.size, 3, none⟩ = some (.int .i64 s.D) ∧ W.cell? ⟨w.heap.size, 4, none⟩ = some (.int .i64 s.R) ∧ W.cell? ⟨w.heap.size, 5, none⟩ = some (.int .i64 s.I) ∧ W.cell? ⟨w.heap.size, 6, none⟩ = some (.int .i64 s.B) ∧ W.cell? ⟨w.heap.size, 7, none⟩ = some (.bool s.ws) ∧ W.cell? ⟨w.heap.size, 8, none⟩ = some (.bool s.cs) ∧ w.heap.size < W.heap.size ∧ Below w.heap.size w W) ∧ (W.cell? ⟨w.heap.size + 1, 0, none⟩ = some (.int .i64 a) ∧ W.cell? ⟨w.heap.size + 1, 1, none⟩ = some (.int .i64 b) ∧ w.heap.size + 1 < W.heap.size)) (first | exact ⟨dS HS4.out.1, HS4.out.2⟩ | exact keepSE2 (by assumption) (by assumption))
    (first | (go_at_call 32; (with_reducible refine (f32_is s a u hsm.ok HU.out _).mono ?_); rintro e wq ⟨rfl, hbq⟩) | (go_at_call 32; (with_reducible refine (f32_is s b v hsm.ok HV.out _).mono ?_); rintro e wq ⟨rfl, hbq⟩))
  rename_i T4
  clear HS4
  go_wp2_with fail
  have HS5 := Hd.mk T4
  clear T4
  go_region_held3 (fun W => (W.cell? ⟨w.heap.size, 0, none⟩ = some (.int .i64 s.W) ∧ W.cell? ⟨w.heap.size, 1, none⟩ = some (.int .i64 s.H) ∧ W.cell? ⟨w.heap.size, 2, none⟩ = some (.int .i64 s.L) ∧ W.cell? ⟨w.heap.size, 3, none⟩ = some (.int .i64 s.D) ∧ W.cell? ⟨w.heap.size, 4, none⟩ = some (.int .i64 s.R) ∧ W.cell? ⟨w.heap.size, 5, none⟩ = some (.int .i64 s.I) ∧ W.cell? ⟨w.heap.size, 6, none⟩ = some (.int .i64 s.B) ∧ W.cell? ⟨w.heap.size, 7, none⟩ = some (.bool s.ws) ∧ W.cell? ⟨w.heap.size, 8, none⟩ = some (.bool s.cs) ∧ w.heap.size < W.heap.size ∧ Below w.heap.size w W) ∧ (W.cell? ⟨w.heap.size + 1, 0, none⟩ = some (.int .i64 a) ∧ W.cell? ⟨w.heap.size + 1, 1, none⟩ = some (.int .i64 b) ∧ w.heap.size + 1 < W.heap.size)) (first | exact ⟨dS HS5.out.1, HS5.out.2⟩ | exact keepSE2 (by assumption) (by assumption))
    (first | (go_at_call 74; (with_reducible refine (f74_b A cap xs nl HNL.out hl hm hA _).mono ?_); rintro e wq ⟨rfl, hbq⟩) | (go_at_call 75; (with_reducible refine (f75_S (c := s) (g := w.heap.size) (w := w) (by assumption) u v A cap (fewP xs) ws nl (F + 1) HNL.out HWS.out HWL.out (by omega) HIN.out HRA.out).mono ?_); rintro e wc ⟨A9, c9, rfl, hrd9, hc9, hbq⟩))
  rename_i T5
  clear HS5
  have S5 := T5.1
  have R5 := Hd.mk hrd9
  clear T5 hrd9
  go_wp2_with fail
  refine (f77_adj _ s A9 c9 ws ps F HPL.out (by omega) HWL.out HAD.out R5.out).mono ?_
  rintro e w6 ⟨v10, rfl, hr10, hb6⟩
  have S6 := keepS hb6 S5
  have R6 := Hd.mk (Rd.below R5.out hb6)
  obtain ⟨A10, c10, rfl, hcap10, -, hrd10⟩ := hr10.rd
  have HZL : Hd ((ws.zip ps).length = F) := ⟨by rw [List.length_zip, HWL.out, HPL.out]; omega⟩
  rw [HZL.out] at hcap10 ⊢
  have R10 := Hd.mk hrd10
  clear hb6 S5 R5 hr10 hrd10
  go_wp2_with fail
  refine (f33_is s u v (F : Int) HF.out _).mono ?_
  rintro e w7 ⟨rfl, hb7⟩
  have S7 := keepS hb7 S6
  have R7 := Hd.mk (Rd.below R6.out hb7)
  have R10b := Hd.mk (Rd2.below R10.out hb7)
  clear hb7 S6 R6 R10
  go_wp2_with fail
  refine (f78_is _ s A10 c10 (ws.zip ps) F HZL.out (by omega) HRI.out R10b.out).mono ?_
  rintro e w8 ⟨rfl, hb8⟩
  have S8 := keepS hb8 S7
  have R8 := Hd.mk (Rd.below R7.out hb8)
  clear hb8 S7 R7 R10b
  obtain ⟨q, off, rfl, hq, hc⟩ := R8.out (by have := HWL.out; omega)
  have hx0 := hc 0 u HFST.out
  have hxF := hc F v HLAST.out
  simp only [Nat.add_zero] at hx0
  clear hc hq R8
  go_wp2
  go_ret
  exact ⟨ret_bool (by simp), sB S8⟩

theorem law24_calls (c : Cfg) (a b : Int) (_ : -9223372036854775808 ≤ a ∧ a ≤ 9223372036854775807) (_ : -9223372036854775808 ≤ b ∧ b ≤ 9223372036854775807) (A : Option Addr) (xs : List Int) (cap : Nat) (hw : ∀ x ∈ xs, In64 x) (hl : xs.length ≤ cap) (hm : cap ≤ 9223372036854775807) (hA : A = none → cap = 0) (w : World) (hrA : Rd w A xs) :
    Calls Try.prog 24 #[cv c, .agg #[.int .i64 a, .int .i64 b], .slice A xs.length cap] w fun e w' => e = .returned (.bool true) ∧ Below w.heap.size w w' := law24_go w c a b A xs cap hw hl hm hA hrA

end Go.Proofs.Ytnbogjiddildaaa
