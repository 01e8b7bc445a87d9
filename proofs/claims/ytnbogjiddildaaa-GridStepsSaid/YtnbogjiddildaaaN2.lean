/- Plain facts on the grid, more: how many channels there are; steps of two kinds. -/
import Derived.Test.YtnbogjiddildaaaI
import Derived.Test.YtnbogjiddildaaaN
namespace Go.Proofs.Ytnbogjiddildaaa
open Go.RowKit
set_option linter.unusedSimpArgs false
set_option linter.unusedVariables false

/-- A config of W columns and H rows alone. -/
def cWH (W H : Int) : Cfg := { W := W, H := H, L := 1, D := 1, R := 1, I := 1, B := 1, ws := false, cs := false }
theorem beside_WH {c : Cfg} (h : chk c = 0) (h2 : chk (cWH c.W c.H) = 0) (n p : Int) : besideP c n p = besideP (cWH c.W c.H) n p := by
  have e1 : nodes c = nodes (cWH c.W c.H) := by rw [nodes_ok h, nodes_ok h2]; rfl
  have e2 : isB c n = isB (cWH c.W c.H) n := by unfold isB; rw [e1]
  have e3 : ∀ x y, inP c x y = inP (cWH c.W c.H) x y := fun x y => by unfold inP; rw [h, h2]; rfl
  unfold besideP
  rw [e2, e3]
  rfl
theorem links_WH {c : Cfg} (h : chk c = 0) (h2 : chk (cWH c.W c.H) = 0) : linksP c = linksP (cWH c.W c.H) := by
  have e1 : nodes c = nodes (cWH c.W c.H) := by rw [nodes_ok h, nodes_ok h2]; rfl
  have e2 : ∀ n, portsP c n = portsP (cWH c.W c.H) n := fun n => by
    unfold portsP plP
    have : (fun q => (besideP c n q).2) = (fun q => (besideP (cWH c.W c.H) n q).2) := by funext q; rw [beside_WH h h2]
    rw [this]
  have e3 : ∀ n, linksAt c n = linksAt (cWH c.W c.H) n := fun n => by unfold linksAt; rw [e2]
  unfold linksP linksTo
  rw [e1]
  simp only [e3]
theorem links_len {c : Cfg} (h : Smc c) : ((linksP c).length : Int) = 2 * ((c.W - 1) * c.H + c.W * (c.H - 1)) := by
  obtain ⟨w1, w2, h1, h2, _, _, ok⟩ := h
  have hw : c.W = 1 ∨ c.W = 2 ∨ c.W = 3 ∨ c.W = 4 := by omega
  have hh : c.H = 1 ∨ c.H = 2 ∨ c.H = 3 ∨ c.H = 4 := by omega
  have key : chk (cWH c.W c.H) = 0 ∧ ((linksP (cWH c.W c.H)).length : Int) = 2 * ((c.W - 1) * c.H + c.W * (c.H - 1)) := by
    rcases hw with e | e | e | e <;> rcases hh with f | f | f | f <;> rw [e, f] <;> decide +kernel
  rw [links_WH ok key.1, key.2]

theorem back_back (p : Int) : backP (backP p) = backP p + (if p < 1 ∨ 4 < p then 0 else p - backP p) := by
  by_cases h : p < 1 ∨ 4 < p
  · rw [if_pos h]
    by_cases h0 : p = 0
    · subst h0; rfl
    · have e : backP p = -1 := by unfold backP; rw [if_neg h0, if_neg (by omega), if_neg (by omega), if_neg (by omega), if_neg (by omega)]
      rw [e]; rfl
  · have hp : p = 1 ∨ p = 2 ∨ p = 3 ∨ p = 4 := by omega
    rcases hp with rfl | rfl | rfl | rfl <;> rfl

/-- Two steps of two kinds, in whatever row. -/
theorem steps_apart {c : Cfg} {n p q a b : Int} (h1 : Step c n p a) (h2 : Step c n q b) (p1 : 1 ≤ p) (q1 : 1 ≤ q) (hd : (decide (p < 3) != decide (q < 3)) = true) :
    ∃ x, besideP c a q = (x, true) ∧ besideP c b p = (x, true) ∧ farP c n x = 2 := by
  have hk := isB_chk h1.vn
  have ha := inn h1.vm
  have hb := inn h2.vm
  have hn := inn h1.vn
  have p4 := h1.p4
  have q4 := h2.p4
  -- the place behind both steps
  have hx : ∃ X Y, X = n % c.W + dxP p + dxP q ∧ Y = n / c.W + dyP p + dyP q ∧ 0 ≤ X ∧ X < c.W ∧ 0 ≤ Y ∧ Y < c.H ∧ absI (n % c.W - X) + absI (n / c.W - Y) = 2 := by
    refine ⟨_, _, rfl, rfl, ?_⟩
    have x1 := h1.x; have y1 := h1.y; have x2 := h2.x; have y2 := h2.y
    have := ha.x0; have := ha.x1; have := ha.y0; have := ha.y1
    have := hb.x0; have := hb.x1; have := hb.y0; have := hb.y1
    have := hn.x0; have := hn.x1; have := hn.y0; have := hn.y1
    have hp : p = 1 ∨ p = 2 ∨ p = 3 ∨ p = 4 := by omega
    have hq : q = 1 ∨ q = 2 ∨ q = 3 ∨ q = 4 := by omega
    rcases hp with rfl | rfl | rfl | rfl <;> rcases hq with rfl | rfl | rfl | rfl
    all_goals first | (simp at hd; done) | skip
    all_goals
      simp only [dxP, dyP] at *
      simp at *
      unfold absI
      omega
  obtain ⟨X, Y, eX, eY, X0, X1, Y0, Y1, hf⟩ := hx
  have hin : inP c X Y = true := inP_iff.2 ⟨hk, X0, X1, Y0, Y1⟩
  have hxy := @node_xy c.W X Y X0 X1
  have hv := isB_xy hin
  refine ⟨Y * c.W + X, ?_, ?_, ?_⟩
  · exact of_step h1.vm hv h2.p0 h2.p4 (by rw [hxy.1, h1.x, eX]) (by rw [hxy.2, h1.y, eY])
  · exact of_step h2.vm hv h1.p0 h1.p4 (by rw [hxy.1, h2.x, eX]; omega) (by rw [hxy.2, h2.y, eY]; omega)
  · rw [farP_yes h1.vn hv, hxy.1, hxy.2]; exact hf

end Go.Proofs.Ytnbogjiddildaaa
