/- Contract of the reference's Straight. -/
import Derived.Test.YtnbogjiddildaaaT7
import Derived.Test.YtnbogjiddildaaaT6
namespace Go.Proofs.Ytnbogjiddildaaa
open Go.RowKit
set_option linter.unusedSimpArgs false
set_option linter.unusedVariables false

theorem keepSLR {c : Cfg} {g q off base : Nat} {x : Int} {v : Value} {xs : List Int} {w W W' : World} (hb : Below W.heap.size W W') (H : ((W.cell? ⟨g, 0, none⟩ = some (.int .i64 c.W) ∧ W.cell? ⟨g, 1, none⟩ = some (.int .i64 c.H) ∧ W.cell? ⟨g, 2, none⟩ = some (.int .i64 c.L) ∧ W.cell? ⟨g, 3, none⟩ = some (.int .i64 c.D) ∧ W.cell? ⟨g, 4, none⟩ = some (.int .i64 c.R) ∧ W.cell? ⟨g, 5, none⟩ = some (.int .i64 c.I) ∧ W.cell? ⟨g, 6, none⟩ = some (.int .i64 c.B) ∧ W.cell? ⟨g, 7, none⟩ = some (.bool c.ws) ∧ W.cell? ⟨g, 8, none⟩ = some (.bool c.cs) ∧ g < W.heap.size ∧ Below w.heap.size w W) ∧ (W.cell? ⟨q, off, none⟩ = some (.int .i64 x) ∧ q < W.heap.size)) ∧ Row W base v xs) : ((W'.cell? ⟨g, 0, none⟩ = some (.int .i64 c.W) ∧ W'.cell? ⟨g, 1, none⟩ = some (.int .i64 c.H) ∧ W'.cell? ⟨g, 2, none⟩ = some (.int .i64 c.L) ∧ W'.cell? ⟨g, 3, none⟩ = some (.int .i64 c.D) ∧ W'.cell? ⟨g, 4, none⟩ = some (.int .i64 c.R) ∧ W'.cell? ⟨g, 5, none⟩ = some (.int .i64 c.I) ∧ W'.cell? ⟨g, 6, none⟩ = some (.int .i64 c.B) ∧ W'.cell? ⟨g, 7, none⟩ = some (.bool c.ws) ∧ W'.cell? ⟨g, 8, none⟩ = some (.bool c.cs) ∧ g < W'.heap.size ∧ Below w.heap.size w W') ∧ (W'.cell? ⟨q, off, none⟩ = some (.int .i64 x) ∧ q < W'.heap.size)) ∧ Row W' base v xs := ⟨keepSL1 hb H.1, Row.below H.2 hb⟩
theorem ne_own {W W1 : World} {base : Nat} {v : Value} {pre xs : List Int} {gq oq n cap : Nat} (h : Row W base v pre) (hq : Row W1 W.heap.size (.slice (some ⟨gq, oq, none⟩) n cap) xs) : some gq ≠ v.ownBlock := fun e => by
  have h1 := (h.lt gq e.symm).2
  have h2 := (hq.lt gq (by simp [Value.ownBlock])).1
  omega

set_option maxHeartbeats 1000000 in
set_option maxRecDepth 20000 in
theorem f67_yes (c : Cfg) (a b : Int) (h : isB (xf c) a = true ∧ isB (xf c) b = true) (w : World) :
    Calls Try.prog 67 #[cv c, .int .i64 a, .int .i64 b] w fun e w' => ∃ A n cap, e = .returned (.slice A n cap) ∧ n = (strP (xf c) a b).length ∧ n ≤ cap ∧ Rd w' A (strP (xf c) a b) ∧ Below w.heap.size w w' := by
  obtain ⟨ha, hb⟩ := h
  go_enter Try.func67, Try.ntmps67
  go_wp2_with fail
  have S1 := s0 (xf c) w
  go_loopw [1, 7] (fun i v W => ∃ pre m, RelStr c a b w i v W pre m) (fun i _ _ => (farP (xf c) (intOf i) b).toNat)
  case atStart => exact ⟨[], a, ha, by simp, Row.nil_ _ _, rfl, S1⟩
  case round =>
    obtain ⟨pre, m, hm, hpre, hrow, rfl, hS⟩ := hrel
    clear S1
    have HR := Hd.mk hrow
    clear hrow
    have hl := str_len (c := xf c) ha hb
    have hf := far_bd (c := xf c) ha hb
    rw [hpre, List.length_append] at hl
    have hlp : pre.length ≤ 1000000 := by omega
    clear hl hf
    have hN := near_x (c := xf c) hm hb
    obtain ⟨p0, p4, loc, m2, hb2, hstep⟩ := hN
    have HP2 := Hd.mk hb2
    have HPS := Hd.mk hpre
    have HM := Hd.mk hm
    have hch : optP (xf c) m b = [hdP (xf c) m b] := by rw [show optP (xf c) m b = optP (xf (xf c)) m b from rfl, opt_xf hm hb]
    obtain ⟨p, HP⟩ : ∃ z, Hd (hdP (xf c) m b = z) := ⟨_, ⟨rfl⟩⟩
    rw [HP.out] at hch p0 p4 loc
    have HCH := Hd.mk hch
    clear hb2 hpre hm hch
    by_cases he : m = b
    · have hp : p = 0 := loc.2 he
      have HE := Hd.mk he
      subst hp
      clear loc p0 p4 he hstep
      go_wp2_with fail
      refine (f61_any (xf c) m b _).mono ?_
      rintro e w2 ⟨vq, rfl, hr, hb1⟩
      rw [HCH.out] at hr
      obtain ⟨Aq, capq, rfl, hcapq, hrdq⟩ := hr.rd
      obtain ⟨gq, oq, rfl, hgq, hcq⟩ := hrdq (by simp)
      have hx := hcq 0 0 rfl
      simp only [Nat.add_zero] at hx
      have HNE := Hd.mk (ne_own HR.out hr)
      clear hcq hrdq hr
      have S2 := keepS (c := xf c) hb1 hS
      have HR1 := Hd.mk (HR.out.below hb1)
      have hz1 := S2.2.2.2.2.2.2.2.2.2.1
      clear hb1 hS HR
      go_wp2_with (at_builtin; refine wpList_app1 rfl (.tmp 19) (.tmp 23) rfl (w.heap.size + 1) _ _ rfl _ rfl (0 : Int) (HR1.out.alloc _) (by simp) (by omega) (by simp; omega) ?_; intro v' W2 hr2 hg2; have S3 := keepG (c := xf c) hg2 (HR1.out.alloc _) (by omega) (by omega) (allocS (c := xf c) _ S2); have hx3 := hg2.cell ((World.cell?_alloc_lt _ _ _ hgq).trans hx) HNE.out; have hgq3 : gq < W2.heap.size := (by have := hg2.size; simp at this; omega); have HR2 := Hd.mk hr2; clear hr2 hg2 S2 HR1 hx hgq)
      obtain ⟨A, cap, rfl, hcap, hrd⟩ := HR2.out.rd
      have hstr : strP (xf c) a b = pre ++ [0] := by rw [HPS.out, HE.out, str_here (by rw [← HE.out]; exact HM.out)]
      go_wp2
      go_ret
      exact ⟨A, _, _, rfl, by rw [hstr], hcap, by rw [hstr]; exact hrd, sB (c := xf c) S3⟩
    · have hp : (p == 0) = false := by rw [beq_eq_false_iff_ne]; exact fun h => he (loc.1 h)
      have HF := Hd.mk (hstep he)
      have HST := Hd.mk (str_step (c := xf c) HM.out hb he HP2.out)
      rw [HP.out] at HST
      have HE := Hd.mk he
      clear loc p0 p4 he hstep
      go_wp2_with fail
      refine (f61_any (xf c) m b _).mono ?_
      rintro e w2 ⟨vq, rfl, hr, hb1⟩
      rw [HCH.out] at hr
      obtain ⟨Aq, capq, rfl, hcapq, hrdq⟩ := hr.rd
      obtain ⟨gq, oq, rfl, hgq, hcq⟩ := hrdq (by simp)
      have hx := hcq 0 p rfl
      simp only [Nat.add_zero] at hx
      have HNE := Hd.mk (ne_own HR.out hr)
      clear hcq hrdq hr
      have S2 := keepS (c := xf c) hb1 hS
      have HR1 := Hd.mk (HR.out.below hb1)
      have hz1 := S2.2.2.2.2.2.2.2.2.2.1
      clear hb1 hS HR
      go_wp2_with (at_builtin; refine wpList_app1 rfl (.tmp 19) (.tmp 23) rfl (w.heap.size + 1) _ _ rfl _ rfl (p : Int) (HR1.out.alloc _) (by simp) (by omega) (by simp; omega) ?_; intro v' W2 hr2 hg2; have S3 := keepG (c := xf c) hg2 (HR1.out.alloc _) (by omega) (by omega) (allocS (c := xf c) _ S2); have hx3 := hg2.cell ((World.cell?_alloc_lt _ _ _ hgq).trans hx) HNE.out; have hgq3 : gq < W2.heap.size := (by have := hg2.size; simp at this; omega); have HR2 := Hd.mk hr2; clear hr2 hg2 S2 HR1 hx hgq)
      have T3 := And.intro S3 (And.intro hx3 hgq3)
      clear S3 hx3 hgq3
      have HP41 : Hd (besideP (xf c) m p = (m2, true)) := ⟨by rw [← HP.out]; exact HP2.out⟩
      go_wp2_with fail
      have HS4 := Hd.mk (And.intro T3 HR2.out)
      clear T3 HR2
      go_region_held3 (fun W => ((W.cell? ⟨w.heap.size, 0, none⟩ = some (.int .i64 (xf c).W) ∧ W.cell? ⟨w.heap.size, 1, none⟩ = some (.int .i64 (xf c).H) ∧ W.cell? ⟨w.heap.size, 2, none⟩ = some (.int .i64 (xf c).L) ∧ W.cell? ⟨w.heap.size, 3, none⟩ = some (.int .i64 (xf c).D) ∧ W.cell? ⟨w.heap.size, 4, none⟩ = some (.int .i64 (xf c).R) ∧ W.cell? ⟨w.heap.size, 5, none⟩ = some (.int .i64 (xf c).I) ∧ W.cell? ⟨w.heap.size, 6, none⟩ = some (.int .i64 (xf c).B) ∧ W.cell? ⟨w.heap.size, 7, none⟩ = some (.bool (xf c).ws) ∧ W.cell? ⟨w.heap.size, 8, none⟩ = some (.bool (xf c).cs) ∧ w.heap.size < W.heap.size ∧ Below w.heap.size w W) ∧ (W.cell? ⟨gq, oq, none⟩ = some (.int .i64 p) ∧ gq < W.heap.size)) ∧ Row W (w.heap.size + 1) v' (pre ++ [p])) (first | exact ⟨⟨dS (c := xf c) HS4.out.1.1, HS4.out.1.2⟩, HS4.out.2⟩ | exact keepSLR (c := xf c) (by assumption) (by assumption))
        (first | (go_at_call 41; (with_reducible refine (f41_is (xf c) m p m2 true HP41.out _).mono ?_); rintro e wq ⟨rfl, hbq⟩))
      rename_i T4
      clear HS4
      go_wp2
      go_roundw
      case rel => exact ⟨pre ++ [p], m2, (step_of HP2.out).vm, by rw [HPS.out, HST.out]; simp, T4.2, rfl, T4.1.1⟩
      case measure =>
        have h0 := far_bd (c := xf c) (step_of HP2.out).vm hb
        have h1 := HF.out
        have h2 := (far_bd (c := xf c) HM.out hb).1
        simp only [intOf]; omega

theorem f67_any (c : Cfg) (a b : Int) (w : World) : Calls Try.prog 67 #[cv c, .int .i64 a, .int .i64 b] w fun e w' => ∃ A n cap, e = .returned (.slice A n cap) ∧ n = (strP (xf c) a b).length ∧ n ≤ cap ∧ Rd w' A (strP (xf c) a b) ∧ Below w.heap.size w w' := by
  by_cases h : isB (xf c) a = true ∧ isB (xf c) b = true
  · exact f67_yes c a b h w
  · exact f67_no c a b h w

end Go.Proofs.Ytnbogjiddildaaa
