/- The walk of the law WalkTurns. -/
import Derived.Test.YtnbogjiddildaaaU8
namespace Go.Proofs.Ytnbogjiddildaaa
open Go.RowKit
set_option linter.unusedSimpArgs false
set_option linter.unusedVariables false

theorem keepT {c : Cfg} {g q1 q2 q3 a1 a2 a3 a4 : Nat} {x y p r : Int} {w wb W W' : World} (hb : Below W.heap.size W W') (H : (W.cell? ⟨g, 0, none⟩ = some (.int .i64 c.W) ∧ W.cell? ⟨g, 1, none⟩ = some (.int .i64 c.H) ∧ W.cell? ⟨g, 2, none⟩ = some (.int .i64 c.L) ∧ W.cell? ⟨g, 3, none⟩ = some (.int .i64 c.D) ∧ W.cell? ⟨g, 4, none⟩ = some (.int .i64 c.R) ∧ W.cell? ⟨g, 5, none⟩ = some (.int .i64 c.I) ∧ W.cell? ⟨g, 6, none⟩ = some (.int .i64 c.B) ∧ W.cell? ⟨g, 7, none⟩ = some (.bool c.ws) ∧ W.cell? ⟨g, 8, none⟩ = some (.bool c.cs) ∧ g < W.heap.size ∧ Below w.heap.size w W) ∧ (W.cell? ⟨q1, a1, none⟩ = some (.int .i64 x) ∧ W.cell? ⟨q1, a2, none⟩ = some (.int .i64 y) ∧ q1 < W.heap.size) ∧ (W.cell? ⟨q2, a3, none⟩ = some (.int .i64 p) ∧ q2 < W.heap.size) ∧ (W.cell? ⟨q3, a4, none⟩ = some (.int .i64 r) ∧ q3 < W.heap.size) ∧ Below wb.heap.size wb W) : (W'.cell? ⟨g, 0, none⟩ = some (.int .i64 c.W) ∧ W'.cell? ⟨g, 1, none⟩ = some (.int .i64 c.H) ∧ W'.cell? ⟨g, 2, none⟩ = some (.int .i64 c.L) ∧ W'.cell? ⟨g, 3, none⟩ = some (.int .i64 c.D) ∧ W'.cell? ⟨g, 4, none⟩ = some (.int .i64 c.R) ∧ W'.cell? ⟨g, 5, none⟩ = some (.int .i64 c.I) ∧ W'.cell? ⟨g, 6, none⟩ = some (.int .i64 c.B) ∧ W'.cell? ⟨g, 7, none⟩ = some (.bool c.ws) ∧ W'.cell? ⟨g, 8, none⟩ = some (.bool c.cs) ∧ g < W'.heap.size ∧ Below w.heap.size w W') ∧ (W'.cell? ⟨q1, a1, none⟩ = some (.int .i64 x) ∧ W'.cell? ⟨q1, a2, none⟩ = some (.int .i64 y) ∧ q1 < W'.heap.size) ∧ (W'.cell? ⟨q2, a3, none⟩ = some (.int .i64 p) ∧ q2 < W'.heap.size) ∧ (W'.cell? ⟨q3, a4, none⟩ = some (.int .i64 r) ∧ q3 < W'.heap.size) ∧ Below wb.heap.size wb W' := by
  obtain ⟨h0, ⟨h1, h2, h3⟩, ⟨h4, h5⟩, ⟨h6, h7⟩, h8⟩ := H
  have hs := hb.size
  refine ⟨keepS hb h0, ⟨?_, ?_, by omega⟩, ⟨?_, by omega⟩, ⟨?_, by omega⟩, bstep h8 hb⟩
  · rw [hb.cell (by exact h3)]; exact h1
  · rw [hb.cell (by exact h3)]; exact h2
  · rw [hb.cell (by exact h5)]; exact h4
  · rw [hb.cell (by exact h7)]; exact h6
theorem f43_is (p r : Int) (h : backP p = r) (w : World) : Calls Try.prog 43 #[.int .i64 p] w fun e w' => e = .returned (.int .i64 r) ∧ Below w.heap.size w w' := by
  subst h; exact f43_any p w
structure RelBack (ws : List Int) (F : Nat) (wa : World) (v i : Value) (W : World) (j : Nat) : Prop where
  jl : j ≤ F + 1
  hi : i = .int .i64 ((F : Int) - j)
  row : Row W wa.heap.size v (ws.reverse.take j)
  b : Below wa.heap.size wa W
theorem back_at {ps : List Int} {F j : Nat} {p : Int} (hl : ps.length = F) (hj : j < F) (hp : ps[j]? = some p) : ((ps.map backP).reverse)[F - 1 - j]? = some (backP p) := by
  rw [List.getElem?_reverse (by rw [List.length_map]; omega), List.length_map, List.getElem?_map, hl, show F - 1 - (F - 1 - j) = j from by omega, hp]; rfl

set_option maxHeartbeats 1000000 in
set_option maxRecDepth 20000 in
theorem law23_go (w : World) (c : Cfg) (a b : Int) (A : Option Addr) (xs : List Int) (cap : Nat) (hw : ∀ x ∈ xs, In64 x) (hl : xs.length ≤ cap) (hm : cap ≤ 9223372036854775807) (hA : A = none → cap = 0) (hrA : Rd w A xs) :
    Calls Try.prog 23 #[cv c, .agg #[.int .i64 a, .int .i64 b], .slice A xs.length cap] w fun e w' => e = .returned (.bool true) ∧ Below w.heap.size w w' := by
  have HRA : Hd (Rd w A (fewP xs)) := ⟨rd_take 20 hrA⟩
  have HIN := Hd.mk (few_in hw)
  clear hrA hw
  go_enter Try.func23, Try.ntmps23
  go_wp2_with fail
  refine (f68_any _).mono ?_
  rintro e w1 ⟨rfl, hb1⟩
  have S1 := keepS hb1 (allocS _ (s0 c w))
  have E1 := keepE2 hb1 (e0_2 a b (h := w.heap.size + 1) _ (by simp))
  have F1 := keepF hb1 (by simp; omega) (allocF _ (by simp) (fz0 c w))
  clear hb1
  go_wp2_with fail
  refine (f31_sm c _).mono ?_
  rintro e w2 ⟨s, hsm, rfl, hb2⟩
  have S2 := keepS hb2 S1
  have E2 := keepE2 hb2 E1
  have F2 := keepF hb2 S1.2.2.2.2.2.2.2.2.2.1 F1
  clear hb2 S1 E1 F1
  go_wp2_with fail
  have S3 := storesS (s := s) (Nat.le_refl _) S2
  have E3 := storesE2 (s := s) (g := w.heap.size) (by omega) E2
  clear S2 E2 F2
  generalize (((((((((w2.setCell ⟨w.heap.size, 0, none⟩ (.int .i64 s.W)).setCell ⟨w.heap.size, 1, none⟩ (.int .i64 s.H)).setCell ⟨w.heap.size, 2, none⟩ (.int .i64 s.L)).setCell ⟨w.heap.size, 3, none⟩ (.int .i64 s.D)).setCell ⟨w.heap.size, 4, none⟩ (.int .i64 s.R)).setCell ⟨w.heap.size, 5, none⟩ (.int .i64 s.I)).setCell ⟨w.heap.size, 6, none⟩ (.int .i64 s.B)).setCell ⟨w.heap.size, 7, none⟩ (.bool s.ws)).setCell ⟨w.heap.size, 8, none⟩ (.bool s.cs)) = w3 at S3 E3 ⊢
  have T3 := And.intro S3 E3
  clear S3 E3
  obtain ⟨u, HU⟩ : ∃ z, Hd (nodeP s a = z) := ⟨_, ⟨rfl⟩⟩
  have HBu : Hd (isB s u = true) := ⟨by have h := nodeP_is hsm.ok a; rw [HU.out] at h; exact h⟩
  obtain ⟨v, HV⟩ : ∃ z, Hd (nodeP s b = z) := ⟨_, ⟨rfl⟩⟩
  have HBv : Hd (isB s v = true) := ⟨by have h := nodeP_is hsm.ok b; rw [HV.out] at h; exact h⟩
  obtain ⟨F, hF⟩ : ∃ F : Nat, farP s u v = (F : Int) := ⟨(farP s u v).toNat, by have := (far_bd HBu.out HBv.out).1; omega⟩
  have hF2 : F ≤ 126 := by have := (far_bd HBu.out HBv.out).2; omega
  have HF := Hd.mk hF
  obtain ⟨nl, HNL⟩ : ∃ z, Hd ((fewP xs).length = z) := ⟨_, ⟨rfl⟩⟩
  have hnl : nl ≤ 20 := by rw [← HNL.out]; exact few_len xs
  obtain ⟨ws, HWS⟩ : ∃ z, Hd (wayP s u v (fewP xs) = z) := ⟨_, ⟨rfl⟩⟩
  have HWL : Hd (ws.length = F + 1) := ⟨by rw [← HWS.out, way_len HBu.out HBv.out, hF]; rfl⟩
  obtain ⟨ps, hadj, htn, hlast⟩ := way_adj (fewP xs) HBu.out HBv.out
  rw [HWS.out, hF] at hlast
  rw [HWS.out] at hadj
  have HLAST : Hd (ws[F]? = some v) := ⟨hlast⟩
  have HFST : Hd (ws[0]? = some u) := ⟨by rw [← HWS.out, way_yes HBu.out HBv.out]; rfl⟩
  have HPL : Hd (ps.length = F) := ⟨by have := hadj.len; have := HWL.out; omega⟩
  have HAD := Hd.mk hadj
  clear hadj hlast
  clear htn hF HLAST HFST
  have HS4 := Hd.mk T3
  clear T3
  go_region_held3 (fun W => (W.cell? ⟨w.heap.size, 0, none⟩ = some (.int .i64 s.W) ∧ W.cell? ⟨w.heap.size, 1, none⟩ = some (.int .i64 s.H) ∧ W.cell? ⟨w.heap.size, 2, none⟩ = some (.int .i64 s.L) ∧ W.cell? ⟨w.heap.size, 3, none⟩ = some (.int .i64 s.D) ∧ W.cell? ⟨w.heap.size, 4, none⟩ = some (.int .i64 s.R) ∧ W.cell? ⟨w.heap.size, 5, none⟩ = some (.int .i64 s.I) ∧ W.cell? ⟨w.heap.size, 6, none⟩ = some (.int .i64 s.B) ∧ W.cell? ⟨w.heap.size, 7, none⟩ = some (.bool s.ws) ∧ W.cell? ⟨w.heap.size, 8, none⟩ = some (.bool s.cs) ∧ w.heap.size < W.heap.size ∧ Below w.heap.size w W) ∧ (W.cell? ⟨w.heap.size + 1, 0, none⟩ = some (.int .i64 a) ∧ W.cell? ⟨w.heap.size + 1, 1, none⟩ = some (.int .i64 b) ∧ w.heap.size + 1 < W.heap.size)) (first | exact ⟨dS HS4.out.1, HS4.out.2⟩ | exact keepSE2 (by assumption) (by assumption))
    (first | (go_at_call 32; (with_reducible refine (f32_is s a u hsm.ok HU.out _).mono ?_); rintro e wq ⟨rfl, hbq⟩) | (go_at_call 32; (with_reducible refine (f32_is s b v hsm.ok HV.out _).mono ?_); rintro e wq ⟨rfl, hbq⟩) | (go_at_call 74; (with_reducible refine (f74_b A cap xs nl HNL.out hl hm hA _).mono ?_); rintro e wq ⟨rfl, hbq⟩) | (go_at_call 75; (with_reducible refine (f75_S (c := s) (g := w.heap.size) (w := w) (by assumption) u v A cap (fewP xs) ws nl (F + 1) HNL.out HWS.out HWL.out (by omega) HIN.out HRA.out).mono ?_); rintro e wc ⟨A9, c9, rfl, hrd9, hc9, hbq⟩))
  rename_i T4
  clear HS4
  have S4 := T4.1
  have R4 := Hd.mk hrd9
  clear T4 hrd9
  have HRL : Hd (ws.reverse.length = F + 1) := ⟨by rw [List.length_reverse]; exact HWL.out⟩
  have HS4 := Hd.mk S4
  clear S4
  go_wp2_with fail
  go_loopw [8, 9] (fun v i W => ∃ j : Nat, RelBack ws F wc v i W j) (fun _ i _ => (intOf i + 1).toNat)
  case atStart => exact ⟨0, by omega, by go_num, Row.nil_ _ _, by first | exact Below.refl _ _ | exact (Below.refl _ _).drew⟩
  case round =>
    obtain ⟨j, hj, rfl, hrow, hB⟩ := hrel
    have HROW := Hd.mk hrow
    clear hrow
    by_cases hlt : j < F + 1
    · obtain ⟨i', hij⟩ : ∃ i', i' + j = F := ⟨F - j, by omega⟩
      have hi' : (F : Int) - (j : Int) = (i' : Int) := by omega
      rw [hi']
      obtain ⟨x, hx⟩ : ∃ x, ws[i']? = some x := ⟨_, List.getElem?_eq_getElem (by have := HWL.out; omega)⟩
      have HTS : Hd (ws.reverse.take (j + 1) = ws.reverse.take j ++ [x]) := ⟨by
        have h1 : ws.reverse[j]? = some x := by rw [List.getElem?_reverse (by have := HWL.out; omega), HWL.out, show F + 1 - 1 - j = i' from by omega]; exact hx
        rw [List.take_add_one, h1]; rfl⟩
      obtain ⟨q, off, rfl, hq, hc⟩ := (R4.out.below hB) (by have := HWL.out; omega)
      have hcx := hc i' x hx
      have hz := hB.size
      have hkl : (ws.reverse.take j).length ≤ 127 := by rw [List.length_take]; omega
      have HI := Hd.mk hi'
      have i1 : (i' : Int) < (F : Int) + 1 := by omega
      clear hc hq hx hi'
      go_wp2_with (at_builtin; refine wpList_app1 rfl (.tmp 40) (.tmp 45) rfl wc.heap.size _ _ rfl _ rfl x (HROW.out.alloc _) (by simp) (by omega) (by simp; omega) ?_; intro v' W2 hr2 hg2)
      have HR2 := Hd.mk hr2
      have B2 : Below wc.heap.size wc W2 := (balloc hB _).grown hg2 (balloc hB _).size (fun q hq => ((HROW.out.alloc (.cells #[.int .i64 x] 3)).lt q hq).1)
      clear hr2 hg2 HROW hB
      go_roundw
      case rel => exact ⟨j + 1, by omega, by go_num, by rw [HTS.out]; exact HR2.out, B2⟩
      case measure => first | (simp [intOf]; done) | (simp [intOf]; omega)
    · obtain rfl : j = F + 1 := by omega
      have hnn : ¬ (0 : Int) ≤ (F : Int) - ((F + 1 : Nat) : Int) := by omega
      have e0 : (F : Int) - ((F + 1 : Nat) : Int) = -1 := by omega
      rw [e0]
      clear hnn e0
      have HK : Hd (Row wr wc.heap.size _ ws.reverse) := ⟨by have h := HROW.out; rw [List.take_of_length_le (by rw [HRL.out]; omega)] at h; exact h⟩
      obtain ⟨A8, c8, rfl, hc8, hrd8⟩ := HK.out.rd
      rw [HRL.out] at hc8 ⊢
      have R8 := Hd.mk hrd8
      have S5 := keepS hB HS4.out
      have R5 := Hd.mk (R4.out.below hB)
      clear hB HROW HK hrd8
      go_wp2_with fail
      refine (f76_adj _ s A9 c9 ws ps F HPL.out (by omega) HWL.out HAD.out R5.out).mono ?_
      rintro e w6 ⟨v10, rfl, hr10, hb6⟩
      have S6 := keepS hb6 S5
      have R6 := Hd.mk (Rd.below R5.out hb6)
      have R8b := Hd.mk (Rd.below R8.out hb6)
      obtain ⟨A10, c10, rfl, hc10, hrd10⟩ := hr10.rd
      rw [HPL.out] at hc10 ⊢
      have P6 := Hd.mk hrd10
      clear hb6 S5 R5 R8 hr10 hrd10
      obtain ⟨qs, HQS⟩ : ∃ z, Hd ((ps.map backP).reverse = z) := ⟨_, ⟨rfl⟩⟩
      have HQL : Hd (qs.length = F) := ⟨by rw [← HQS.out, List.length_reverse, List.length_map, HPL.out]⟩
      go_wp2_with fail
      refine (f76_adj _ s A8 c8 ws.reverse qs F HQL.out (by omega) HRL.out (by rw [← HQS.out]; exact adj_back HAD.out) R8b.out).mono ?_
      rintro e wb ⟨v12, rfl, hr12, hb7⟩
      have S7 := keepS hb7 S6
      have R7 := Hd.mk (Rd.below R6.out hb7)
      have P7 := Hd.mk (Rd.below P6.out hb7)
      obtain ⟨A12, c12, rfl, hc12, hrd12⟩ := hr12.rd
      rw [HQL.out] at hc12 ⊢
      have Q7 := Hd.mk hrd12
      have HS7 := Hd.mk S7
      clear hb7 S6 R6 R8b P6 hr12 hrd12 S7
      have hf0 : ((F : Int) + 1 == 0) = false := by rw [beq_eq_false_iff_ne]; omega
      go_wp2_with fail
      go_loopw [14] (fun i W => ∃ j : Nat, j ≤ F ∧ i = .int .i64 (j : Int) ∧ Below wb.heap.size wb W) (fun i _ => F - (intOf i).toNat)
      case atStart => exact ⟨0, by omega, rfl, Below.refl _ _⟩
      case round =>
        obtain ⟨j, hj, rfl, hB⟩ := hrel
        by_cases hlt : j < F
        · obtain ⟨x, hx⟩ : ∃ x, ws[j]? = some x := ⟨_, List.getElem?_eq_getElem (by have := HWL.out; omega)⟩
          obtain ⟨y, hy⟩ : ∃ x, ws[j + 1]? = some x := ⟨_, List.getElem?_eq_getElem (by have := HWL.out; omega)⟩
          obtain ⟨p, hp⟩ : ∃ x, ps[j]? = some x := ⟨_, List.getElem?_eq_getElem (by have := HPL.out; omega)⟩
          obtain ⟨jj, hjj⟩ : ∃ jj, jj + j + 1 = F := ⟨F - 1 - j, by omega⟩
          obtain ⟨r, HRR⟩ : ∃ z, Hd (backP p = z) := ⟨_, ⟨rfl⟩⟩
          have hr : qs[jj]? = some r := by have h := back_at HPL.out hlt hp; rw [HQS.out, HRR.out, show F - 1 - j = jj from by omega] at h; exact h
          have HST := Hd.mk (HAD.out.st j x y p hx hy hp).1
          obtain ⟨q1, o1, rfl, hq1, hc1⟩ := (R7.out.below hB) (by have := HWL.out; omega)
          obtain ⟨q2, o2, rfl, hq2, hc2⟩ := (P7.out.below hB) (by have := HPL.out; omega)
          obtain ⟨q3, o3, rfl, hq3, hc3⟩ := (Q7.out.below hB) (by have := HQL.out; omega)
          have HT := Hd.mk (And.intro (keepS hB HS7.out) (And.intro (And.intro (hc1 j x hx) (And.intro (hc1 (j + 1) y hy) hq1)) (And.intro (And.intro (hc2 j p hp) hq2) (And.intro (And.intro (hc3 jj r hr) hq3) hB))))
          have i0 : (0 : Int) ≤ (j : Int) := by omega
          have i1 : (j : Int) < (F : Int) + 1 := by omega
          have i1' : (j : Int) < ((F + 1 : Nat) : Int) := by omega
          have i2 : (j : Int) < (F : Int) := by omega
          have i3 : (j : Int) + 1 < (F : Int) + 1 := by omega
          have i3' : (j : Int) + 1 < ((F + 1 : Nat) : Int) := by omega
          have i4 : (0 : Int) ≤ (j : Int) + 1 := by omega
          have i5 : (0 : Int) ≤ (jj : Int) := by omega
          have i6 : (jj : Int) < (F : Int) := by omega
          have HE : Hd ((F : Int) - 1 - (j : Int) = (jj : Int)) := ⟨by omega⟩
          have b1 : (y != y) = false := by simp
          have b2 : (r != r) = false := by simp
          clear hx hy hp hr hq1 hq2 hq3 hc1 hc2 hc3 hB
          go_wp2_with fail
          go_region_held3 (fun W => (W.cell? ⟨w.heap.size, 0, none⟩ = some (.int .i64 s.W) ∧ W.cell? ⟨w.heap.size, 1, none⟩ = some (.int .i64 s.H) ∧ W.cell? ⟨w.heap.size, 2, none⟩ = some (.int .i64 s.L) ∧ W.cell? ⟨w.heap.size, 3, none⟩ = some (.int .i64 s.D) ∧ W.cell? ⟨w.heap.size, 4, none⟩ = some (.int .i64 s.R) ∧ W.cell? ⟨w.heap.size, 5, none⟩ = some (.int .i64 s.I) ∧ W.cell? ⟨w.heap.size, 6, none⟩ = some (.int .i64 s.B) ∧ W.cell? ⟨w.heap.size, 7, none⟩ = some (.bool s.ws) ∧ W.cell? ⟨w.heap.size, 8, none⟩ = some (.bool s.cs) ∧ w.heap.size < W.heap.size ∧ Below w.heap.size w W) ∧ (W.cell? ⟨q1, o1 + j, none⟩ = some (.int .i64 x) ∧ W.cell? ⟨q1, o1 + (j + 1), none⟩ = some (.int .i64 y) ∧ q1 < W.heap.size) ∧ (W.cell? ⟨q2, o2 + j, none⟩ = some (.int .i64 p) ∧ q2 < W.heap.size) ∧ (W.cell? ⟨q3, o3 + jj, none⟩ = some (.int .i64 r) ∧ q3 < W.heap.size) ∧ Below wb.heap.size wb W) (first | exact ⟨dS HT.out.1, HT.out.2.1, HT.out.2.2.1, HT.out.2.2.2.1, HT.out.2.2.2.2.drew⟩ | exact keepT (by assumption) (by assumption))
            (first | (go_at_call 34; (with_reducible refine (f34_is s x p y true HST.out _).mono ?_); rintro e wq ⟨rfl, hbq⟩))
          rename_i T8
          have HT8 := Hd.mk T8
          clear HT T8
          have e1 : IntKind.i64.wrap ((F : Int) - 1) = (F : Int) - 1 := IntWalk.i64_in _ (by omega)
          have e2 : IntKind.i64.wrap ((F : Int) - 1 - (j : Int)) = (jj : Int) := by rw [HE.out]; exact IntWalk.i64_in _ (by omega)
          have e4 : IntKind.i64.wrap (jj : Int) = (jj : Int) := IntWalk.i64_in _ (by omega)
          have e5 : IntKind.i64.wrap ((j : Int) + 1) = (j : Int) + 1 := IntWalk.i64_in _ (by omega)
          have e6 : ((j : Int) + 1).toNat = j + 1 := by omega
          go_wp2_with fail
          go_region_held3 (fun W => (W.cell? ⟨w.heap.size, 0, none⟩ = some (.int .i64 s.W) ∧ W.cell? ⟨w.heap.size, 1, none⟩ = some (.int .i64 s.H) ∧ W.cell? ⟨w.heap.size, 2, none⟩ = some (.int .i64 s.L) ∧ W.cell? ⟨w.heap.size, 3, none⟩ = some (.int .i64 s.D) ∧ W.cell? ⟨w.heap.size, 4, none⟩ = some (.int .i64 s.R) ∧ W.cell? ⟨w.heap.size, 5, none⟩ = some (.int .i64 s.I) ∧ W.cell? ⟨w.heap.size, 6, none⟩ = some (.int .i64 s.B) ∧ W.cell? ⟨w.heap.size, 7, none⟩ = some (.bool s.ws) ∧ W.cell? ⟨w.heap.size, 8, none⟩ = some (.bool s.cs) ∧ w.heap.size < W.heap.size ∧ Below w.heap.size w W) ∧ (W.cell? ⟨q1, o1 + j, none⟩ = some (.int .i64 x) ∧ W.cell? ⟨q1, o1 + (j + 1), none⟩ = some (.int .i64 y) ∧ q1 < W.heap.size) ∧ (W.cell? ⟨q2, o2 + j, none⟩ = some (.int .i64 p) ∧ q2 < W.heap.size) ∧ (W.cell? ⟨q3, o3 + jj, none⟩ = some (.int .i64 r) ∧ q3 < W.heap.size) ∧ Below wb.heap.size wb W) (first | exact ⟨dS HT8.out.1, HT8.out.2.1, HT8.out.2.2.1, HT8.out.2.2.2.1, HT8.out.2.2.2.2.drew⟩ | exact keepT (by assumption) (by assumption))
            (first | (go_at_call 43; (with_reducible refine (f43_is p r HRR.out _).mono ?_); rintro e wq ⟨rfl, hbq⟩))
          rename_i T9
          have B9 := T9.2.2.2.2
          clear HT8 T9 e1 e2 e4 e5 e6
          go_wp2
          go_roundw
          case rel => exact ⟨j + 1, by omega, by go_num, B9⟩
          case measure => simp [intOf]; omega
        · go_wp2
          go_ret
          exact ⟨rfl, sB (keepS hB HS7.out)⟩

theorem law23_calls (c : Cfg) (a b : Int) (_ : -9223372036854775808 ≤ a ∧ a ≤ 9223372036854775807) (_ : -9223372036854775808 ≤ b ∧ b ≤ 9223372036854775807) (A : Option Addr) (xs : List Int) (cap : Nat) (hw : ∀ x ∈ xs, In64 x) (hl : xs.length ≤ cap) (hm : cap ≤ 9223372036854775807) (hA : A = none → cap = 0) (w : World) (hrA : Rd w A xs) :
    Calls Try.prog 23 #[cv c, .agg #[.int .i64 a, .int .i64 b], .slice A xs.length cap] w fun e w' => e = .returned (.bool true) ∧ Below w.heap.size w w' := law23_go w c a b A xs cap hw hl hm hA hrA

end Go.Proofs.Ytnbogjiddildaaa
