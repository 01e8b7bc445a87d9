/- A packet that goes by options takes allowed turns; the walk of the law TurnGoes. -/
import Derived.Test.YtnbogjiddildaaaT9
import Derived.Test.YtnbogjiddildaaaRs
namespace Go.Proofs.Ytnbogjiddildaaa
open Go.RowKit
set_option linter.unusedSimpArgs false
set_option linter.unusedVariables false

/-- One step by whatever choice. -/
structure Go1 (c : Cfg) (a b p m : Int) : Prop where
  p1 : 1 ≤ p
  p4 : p ≤ 4
  st : besideP c a p = (m, true)
  far : farP c m b = farP c a b - 1
  e : p = 1 → a % c.W < b % c.W
  w : p = 2 → b % c.W < a % c.W
  n : p = 3 → a / c.W < b / c.W ∧ a % c.W ≤ b % c.W
  s : p = 4 → b / c.W < a / c.W ∧ a % c.W ≤ b % c.W
theorem go_x {c : Cfg} {a b : Int} (ha : isB c a = true) (hb : isB c b = true) (hne : a ≠ b) : ∃ m, Go1 c a b (hdP c a b) m := by
  obtain ⟨p0, p4, loc, m, hm, hf⟩ := near_x ha hb
  have h0 : hdP c a b ≠ 0 := fun h => hne (loc.1 h)
  refine ⟨m, by omega, p4, hm, hf hne, ?_, ?_, ?_, ?_⟩ <;> clear loc hm hf h0 p0 p4 <;> unfold hdP sgn <;> intro h <;> repeat' split at h
  all_goals omega
theorem go_y {c : Cfg} {a b : Int} (ha : isB c a = true) (hb : isB c b = true) (hx : a % c.W < b % c.W) (hy : b / c.W ≠ a / c.W) : ∃ m, Go1 c a b (sgn (a / c.W) (b / c.W) 3 4) m := by
  have hne : a ≠ b := fun h => hy (by rw [h])
  obtain ⟨p0, p4, loc, m, hm, hf⟩ := near_y ha hb hx hy
  have h0 : sgn (a / c.W) (b / c.W) 3 4 ≠ 0 := fun h => hne (loc.1 h)
  refine ⟨m, by omega, p4, hm, hf hne, ?_, ?_, ?_, ?_⟩ <;> clear loc hm hf h0 p0 p4 <;> unfold sgn <;> intro h <;> repeat' split at h
  all_goals omega
theorem go_any {c : Cfg} {a b : Int} (ch : Int) (ha : isB c a = true) (hb : isB c b = true) (hne : a ≠ b) : ∃ p m, chooseP c a b ch = (p, true) ∧ Go1 c a b p m := by
  obtain ⟨m1, h1⟩ := go_x ha hb hne
  rcases opt_is ha hb with ⟨ho, _⟩ | ⟨ho, hd, _, hx, hy⟩
  · exact ⟨_, m1, by unfold chooseP; rw [ho], h1⟩
  · obtain ⟨m2, h2⟩ := go_y ha hb hx hy
    rw [hd] at h1
    by_cases hr : rnd ch % 2 = 0
    · exact ⟨_, m1, by unfold chooseP; rw [ho]; simp only [if_pos hr], h1⟩
    · exact ⟨_, m2, by unfold chooseP; rw [ho]; simp only [if_neg hr], h2⟩
/-- What is known of the last port at a node on the way. -/
structure Lst (c : Cfg) (b l m : Int) : Prop where
  l0 : 0 ≤ l
  l4 : l ≤ 4
  e : l = 1 → m % c.W ≤ b % c.W
  w : l = 2 → b % c.W ≤ m % c.W
  n : l = 3 → m / c.W ≤ b / c.W ∧ m % c.W ≤ b % c.W
  s : l = 4 → b / c.W ≤ m / c.W ∧ m % c.W ≤ b % c.W
theorem lst_step {c : Cfg} {a b p m : Int} (h : Go1 c a b p m) : Lst c b p m := by
  have hs := step_of h.st
  have hx := hs.x
  have hy := hs.y
  obtain ⟨p1, p4, _, _, e, w, n, s⟩ := h
  refine ⟨by omega, p4, fun hp => ?_, fun hp => ?_, fun hp => ?_, fun hp => ?_⟩ <;> subst hp
  · have := e rfl; rw [hx]; simp only [dxP]; simp; omega
  · have := w rfl; rw [hx]; simp only [dxP]; simp; omega
  · have := n rfl; rw [hx, hy]; simp only [dxP, dyP]; simp; omega
  · have := s rfl; rw [hx, hy]; simp only [dxP, dyP]; simp; omega
theorem lst_allow {c : Cfg} {a b l p m : Int} (h : Lst c b l a) (g : Go1 c a b p m) : allowP l p = true := by
  obtain ⟨l0, l4, e, w, n, s⟩ := h
  obtain ⟨p1, p4, _, _, e', w', n', s'⟩ := g
  have h1 : l = 0 ∨ l = 1 ∨ l = 2 ∨ l = 3 ∨ l = 4 := by omega
  have h2 : p = 1 ∨ p = 2 ∨ p = 3 ∨ p = 4 := by omega
  rcases h1 with rfl | rfl | rfl | rfl | rfl <;> rcases h2 with rfl | rfl | rfl | rfl
  all_goals first | decide | (exfalso; simp only [forall_const, true_implies, reduceCtorEq, false_implies] at e w n s e' w' n' s'; omega)

structure RelGoes (c : Cfg) (a0 b : Int) (A : Option Addr) (xs : List Int) (w : World) (va vl vi : Value) (W : World) (k : Nat) (m l : Int) : Prop where
  hk : (k : Int) ≤ farP c a0 b
  vm : isB c m = true
  far : Hd (farP c m b = farP c a0 b - k)
  lst : Hd (Lst c b l m)
  ha : va = .int .i64 m
  hl : vl = .int .i64 l
  hi : vi = .int .i64 (k : Int)
  s : W.cell? ⟨w.heap.size, 0, none⟩ = some (.int .i64 c.W) ∧ W.cell? ⟨w.heap.size, 1, none⟩ = some (.int .i64 c.H) ∧ W.cell? ⟨w.heap.size, 2, none⟩ = some (.int .i64 c.L) ∧ W.cell? ⟨w.heap.size, 3, none⟩ = some (.int .i64 c.D) ∧ W.cell? ⟨w.heap.size, 4, none⟩ = some (.int .i64 c.R) ∧ W.cell? ⟨w.heap.size, 5, none⟩ = some (.int .i64 c.I) ∧ W.cell? ⟨w.heap.size, 6, none⟩ = some (.int .i64 c.B) ∧ W.cell? ⟨w.heap.size, 7, none⟩ = some (.bool c.ws) ∧ W.cell? ⟨w.heap.size, 8, none⟩ = some (.bool c.cs) ∧ w.heap.size < W.heap.size ∧ Below w.heap.size w W

set_option maxHeartbeats 1000000 in
set_option maxRecDepth 20000 in
theorem law16_go (w : World) (c : Cfg) (a b : Int) (A : Option Addr) (xs : List Int) (cap : Nat) (hw : ∀ x ∈ xs, In64 x) (hl : xs.length ≤ cap) (hm : cap ≤ 9223372036854775807) (hrA : Rd w A xs) :
    Calls Try.prog 16 #[cv c, .agg #[.int .i64 a, .int .i64 b], .slice A xs.length cap] w fun e w' => e = .returned (.bool true) ∧ Below w.heap.size w w' := by
  go_enter Try.func16, Try.ntmps16
  go_wp2_with fail
  refine (f57_any _).mono ?_
  rintro e w1 ⟨rfl, hb1⟩
  have S1 := keepS hb1 (allocS _ (s0 c w))
  have E1 := keepE2 hb1 (e0_2 a b (h := w.heap.size + 1) _ (by simp))
  have F1 := keepF hb1 (by simp; omega) (allocF _ (by simp) (fz0 c w))
  clear hb1
  go_wp2_with fail
  refine (f31_sm c _).mono ?_
  rintro e w2 ⟨s, hsm, rfl, hb2⟩
  have S2 := keepS hb2 S1
  have E2 := keepE2 hb2 E1
  have F2 := keepF hb2 S1.2.2.2.2.2.2.2.2.2.1 F1
  clear hb2 S1 E1 F1
  go_wp2_with fail
  have S3 := storesS (s := s) (Nat.le_refl _) S2
  have E3 := storesE2 (s := s) (g := w.heap.size) (by omega) E2
  clear S2 E2 F2
  generalize (((((((((w2.setCell ⟨w.heap.size, 0, none⟩ (.int .i64 s.W)).setCell ⟨w.heap.size, 1, none⟩ (.int .i64 s.H)).setCell ⟨w.heap.size, 2, none⟩ (.int .i64 s.L)).setCell ⟨w.heap.size, 3, none⟩ (.int .i64 s.D)).setCell ⟨w.heap.size, 4, none⟩ (.int .i64 s.R)).setCell ⟨w.heap.size, 5, none⟩ (.int .i64 s.I)).setCell ⟨w.heap.size, 6, none⟩ (.int .i64 s.B)).setCell ⟨w.heap.size, 7, none⟩ (.bool s.ws)).setCell ⟨w.heap.size, 8, none⟩ (.bool s.cs)) = w3 at S3 E3 ⊢
  have T3 := And.intro S3 E3
  clear S3 E3
  obtain ⟨u, HU⟩ : ∃ z, Hd (nodeP s a = z) := ⟨_, ⟨rfl⟩⟩
  have HBu : Hd (isB s u = true) := ⟨by have h := nodeP_is hsm.ok a; rw [HU.out] at h; exact h⟩
  obtain ⟨v, HV⟩ : ∃ z, Hd (nodeP s b = z) := ⟨_, ⟨rfl⟩⟩
  have HBv : Hd (isB s v = true) := ⟨by have h := nodeP_is hsm.ok b; rw [HV.out] at h; exact h⟩
  have HS4 := Hd.mk T3
  clear T3
  go_region_held3 (fun W => (W.cell? ⟨w.heap.size, 0, none⟩ = some (.int .i64 s.W) ∧ W.cell? ⟨w.heap.size, 1, none⟩ = some (.int .i64 s.H) ∧ W.cell? ⟨w.heap.size, 2, none⟩ = some (.int .i64 s.L) ∧ W.cell? ⟨w.heap.size, 3, none⟩ = some (.int .i64 s.D) ∧ W.cell? ⟨w.heap.size, 4, none⟩ = some (.int .i64 s.R) ∧ W.cell? ⟨w.heap.size, 5, none⟩ = some (.int .i64 s.I) ∧ W.cell? ⟨w.heap.size, 6, none⟩ = some (.int .i64 s.B) ∧ W.cell? ⟨w.heap.size, 7, none⟩ = some (.bool s.ws) ∧ W.cell? ⟨w.heap.size, 8, none⟩ = some (.bool s.cs) ∧ w.heap.size < W.heap.size ∧ Below w.heap.size w W) ∧ (W.cell? ⟨w.heap.size + 1, 0, none⟩ = some (.int .i64 a) ∧ W.cell? ⟨w.heap.size + 1, 1, none⟩ = some (.int .i64 b) ∧ w.heap.size + 1 < W.heap.size)) (first | exact ⟨dS HS4.out.1, HS4.out.2⟩ | exact keepSE2 (by assumption) (by assumption))
    (first | (go_at_call 32; (with_reducible refine (f32_is s a u hsm.ok HU.out _).mono ?_); rintro e wq ⟨rfl, hbq⟩) | (go_at_call 32; (with_reducible refine (f32_is s b v hsm.ok HV.out _).mono ?_); rintro e wq ⟨rfl, hbq⟩))
  rename_i T4
  clear HS4
  have S4 := T4.1
  clear T4
  obtain ⟨d, HD⟩ : ∃ z, Hd (farP s u v = z) := ⟨_, ⟨rfl⟩⟩
  have hbd := far_bd HBu.out HBv.out
  rw [HD.out] at hbd
  have HRA := Hd.mk hrA
  have HW := Hd.mk hw
  clear hrA hw
  go_wp2_with fail
  refine (f33_is s u v d HD.out _).mono ?_
  rintro e w5 ⟨rfl, hb5⟩
  have S5 := keepS hb5 S4
  clear hb5 S4
  go_wp2_with fail
  go_loopw [7, 10, 11] (fun va vl vi W => ∃ k m l, RelGoes s u v A xs w va vl vi W k m l) (fun _ _ vi _ => (d - intOf vi).toNat)
  case atStart => exact ⟨0, u, 0, by rw [HD.out]; omega, HBu.out, ⟨by omega⟩, ⟨⟨by omega, by omega, by omega, by omega, by omega, by omega⟩⟩, rfl, rfl, rfl, S5⟩
  case round =>
    obtain ⟨k, m, l, hk, hvm, HFAR, HLST, rfl, rfl, rfl, hS⟩ := hrel
    clear S5
    rw [HD.out] at hk
    have HVM := Hd.mk hvm
    clear hvm
    by_cases hlt : (k : Int) < d
    · have HNE : Hd (m ≠ v) := ⟨fun h => by
        have h1 := (far_zero HVM.out HBv.out).2 h
        have h2 := HFAR.out
        rw [HD.out] at h2
        omega⟩
      by_cases hkx : k < xs.length
      · obtain ⟨ch, HX⟩ : ∃ x, Hd (xs[k]? = some x) := ⟨_, ⟨List.getElem?_eq_getElem hkx⟩⟩
        have hcb := HW.out ch (List.mem_of_getElem? HX.out)
        unfold In64 at hcb
        obtain ⟨p, m2, hch, hgo⟩ := go_any ch HVM.out HBv.out HNE.out
        have HCH := Hd.mk hch
        have HGO := Hd.mk hgo
        have HST := Hd.mk hgo.st
        have HAL := Hd.mk (lst_allow HLST.out hgo)
        have hp0 : (p == 0) = false := by have := hgo.p1; rw [beq_eq_false_iff_ne]; omega
        clear hch hgo
        have RA := Hd.mk (HRA.out.below (sB hS))
        obtain ⟨q, off, rfl, hq, hc⟩ := RA.out (by omega)
        have hx := hc k ch HX.out
        clear hc hq RA
        go_wp2_with fail
        refine (f58_is s m v ch hcb.1 hcb.2 p true HCH.out _).mono ?_
        rintro e w6 ⟨rfl, hb6⟩
        have S6 := keepS hb6 hS
        clear hb6 hS
        clear hx
        go_wp2_with fail
        refine (f34_is s m p m2 true HST.out _).mono ?_
        rintro e w7 ⟨rfl, hb7⟩
        have S7 := keepS hb7 S6
        clear hb7 S6
        go_wp2_with fail
        refine (f64_is l p true HAL.out _).mono ?_
        rintro e w8 ⟨rfl, hb8⟩
        have S8 := keepS hb8 S7
        clear hb8 S7
        go_wp2
        go_roundw
        case rel => exact ⟨k + 1, m2, p, by rw [HD.out]; omega, (step_of HST.out).vm, ⟨by have h1 := HGO.out.far; have h2 := HFAR.out; rw [h1, h2]; omega⟩, ⟨lst_step HGO.out⟩, rfl, rfl, by go_num, S8⟩
        case measure => simp [intOf]; omega
      · obtain ⟨p, m2, hch, hgo⟩ := go_any 0 HVM.out HBv.out HNE.out
        have HCH := Hd.mk hch
        have HGO := Hd.mk hgo
        have HST := Hd.mk hgo.st
        have HAL := Hd.mk (lst_allow HLST.out hgo)
        have hp0 : (p == 0) = false := by have := hgo.p1; rw [beq_eq_false_iff_ne]; omega
        clear hch hgo
        go_wp2_with fail
        refine (f58_is s m v 0 (by omega) (by omega) p true HCH.out _).mono ?_
        rintro e w6 ⟨rfl, hb6⟩
        have S6 := keepS hb6 hS
        clear hb6 hS
        skip
        go_wp2_with fail
        refine (f34_is s m p m2 true HST.out _).mono ?_
        rintro e w7 ⟨rfl, hb7⟩
        have S7 := keepS hb7 S6
        clear hb7 S6
        go_wp2_with fail
        refine (f64_is l p true HAL.out _).mono ?_
        rintro e w8 ⟨rfl, hb8⟩
        have S8 := keepS hb8 S7
        clear hb8 S7
        go_wp2
        go_roundw
        case rel => exact ⟨k + 1, m2, p, by rw [HD.out]; omega, (step_of HST.out).vm, ⟨by have h1 := HGO.out.far; have h2 := HFAR.out; rw [h1, h2]; omega⟩, ⟨lst_step HGO.out⟩, rfl, rfl, by go_num, S8⟩
        case measure => simp [intOf]; omega
    · have he : m = v := (far_zero HVM.out HBv.out).1 (by have h2 := HFAR.out; rw [HD.out] at h2; omega)
      subst he
      go_wp2
      go_ret
      exact ⟨ret_bool (by simp), sB hS⟩

theorem law16_calls (c : Cfg) (a b : Int) (_ : -9223372036854775808 ≤ a ∧ a ≤ 9223372036854775807) (_ : -9223372036854775808 ≤ b ∧ b ≤ 9223372036854775807) (A : Option Addr) (xs : List Int) (cap : Nat) (hw : ∀ x ∈ xs, In64 x) (hl : xs.length ≤ cap) (hm : cap ≤ 9223372036854775807) (w : World) (hrA : Rd w A xs) :
    Calls Try.prog 16 #[cv c, .agg #[.int .i64 a, .int .i64 b], .slice A xs.length cap] w fun e w' => e = .returned (.bool true) ∧ Below w.heap.size w w' := law16_go w c a b A xs cap hw hl hm hrA

end Go.Proofs.Ytnbogjiddildaaa
