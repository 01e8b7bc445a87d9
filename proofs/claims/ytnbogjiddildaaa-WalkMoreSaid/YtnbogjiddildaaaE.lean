/- Contracts of grid.Beside, grid.Far, and of the reference's Beside, Far, Node, Small. -/
import Derived.Test.YtnbogjiddildaaaD
import Derived.Deep.RegionHeld3
namespace Go.Proofs.Ytnbogjiddildaaa
open Go.RowKit
set_option linter.unusedSimpArgs false
set_option linter.unusedVariables false

theorem dS {c : Cfg} {g : Nat} {w W : World} (h : W.cell? ⟨g, 0, none⟩ = some (.int .i64 c.W) ∧ W.cell? ⟨g, 1, none⟩ = some (.int .i64 c.H) ∧ W.cell? ⟨g, 2, none⟩ = some (.int .i64 c.L) ∧ W.cell? ⟨g, 3, none⟩ = some (.int .i64 c.D) ∧ W.cell? ⟨g, 4, none⟩ = some (.int .i64 c.R) ∧ W.cell? ⟨g, 5, none⟩ = some (.int .i64 c.I) ∧ W.cell? ⟨g, 6, none⟩ = some (.int .i64 c.B) ∧ W.cell? ⟨g, 7, none⟩ = some (.bool c.ws) ∧ W.cell? ⟨g, 8, none⟩ = some (.bool c.cs) ∧ g < W.heap.size ∧ Below w.heap.size w W) : W.drew.cell? ⟨g, 0, none⟩ = some (.int .i64 c.W) ∧ W.drew.cell? ⟨g, 1, none⟩ = some (.int .i64 c.H) ∧ W.drew.cell? ⟨g, 2, none⟩ = some (.int .i64 c.L) ∧ W.drew.cell? ⟨g, 3, none⟩ = some (.int .i64 c.D) ∧ W.drew.cell? ⟨g, 4, none⟩ = some (.int .i64 c.R) ∧ W.drew.cell? ⟨g, 5, none⟩ = some (.int .i64 c.I) ∧ W.drew.cell? ⟨g, 6, none⟩ = some (.int .i64 c.B) ∧ W.drew.cell? ⟨g, 7, none⟩ = some (.bool c.ws) ∧ W.drew.cell? ⟨g, 8, none⟩ = some (.bool c.cs) ∧ g < W.drew.heap.size ∧ Below w.heap.size w W.drew := ⟨h.1, h.2.1, h.2.2.1, h.2.2.2.1, h.2.2.2.2.1, h.2.2.2.2.2.1, h.2.2.2.2.2.2.1, h.2.2.2.2.2.2.2.1, h.2.2.2.2.2.2.2.2.1, h.2.2.2.2.2.2.2.2.2.1, h.2.2.2.2.2.2.2.2.2.2.drew⟩

theorem keepS {c : Cfg} {g : Nat} {w W W' : World} (hb : Below W.heap.size W W') (h : W.cell? ⟨g, 0, none⟩ = some (.int .i64 c.W) ∧ W.cell? ⟨g, 1, none⟩ = some (.int .i64 c.H) ∧ W.cell? ⟨g, 2, none⟩ = some (.int .i64 c.L) ∧ W.cell? ⟨g, 3, none⟩ = some (.int .i64 c.D) ∧ W.cell? ⟨g, 4, none⟩ = some (.int .i64 c.R) ∧ W.cell? ⟨g, 5, none⟩ = some (.int .i64 c.I) ∧ W.cell? ⟨g, 6, none⟩ = some (.int .i64 c.B) ∧ W.cell? ⟨g, 7, none⟩ = some (.bool c.ws) ∧ W.cell? ⟨g, 8, none⟩ = some (.bool c.cs) ∧ g < W.heap.size ∧ Below w.heap.size w W) : W'.cell? ⟨g, 0, none⟩ = some (.int .i64 c.W) ∧ W'.cell? ⟨g, 1, none⟩ = some (.int .i64 c.H) ∧ W'.cell? ⟨g, 2, none⟩ = some (.int .i64 c.L) ∧ W'.cell? ⟨g, 3, none⟩ = some (.int .i64 c.D) ∧ W'.cell? ⟨g, 4, none⟩ = some (.int .i64 c.R) ∧ W'.cell? ⟨g, 5, none⟩ = some (.int .i64 c.I) ∧ W'.cell? ⟨g, 6, none⟩ = some (.int .i64 c.B) ∧ W'.cell? ⟨g, 7, none⟩ = some (.bool c.ws) ∧ W'.cell? ⟨g, 8, none⟩ = some (.bool c.cs) ∧ g < W'.heap.size ∧ Below w.heap.size w W' := by
  obtain ⟨h0, h1, h2, h3, h4, h5, h6, h7, h8, hg, hB⟩ := h
  have hs := hb.size
  refine ⟨?_, ?_, ?_, ?_, ?_, ?_, ?_, ?_, ?_, by omega, bstep hB hb⟩
  all_goals rw [hb.cell (by exact hg)]; assumption

theorem s0 (c : Cfg) (w : World) : (w.alloc (.cells #[.int .i64 c.W, .int .i64 c.H, .int .i64 c.L, .int .i64 c.D, .int .i64 c.R, .int .i64 c.I, .int .i64 c.B, .bool c.ws, .bool c.cs] 23)).cell? ⟨w.heap.size, 0, none⟩ = some (.int .i64 c.W) ∧ (w.alloc (.cells #[.int .i64 c.W, .int .i64 c.H, .int .i64 c.L, .int .i64 c.D, .int .i64 c.R, .int .i64 c.I, .int .i64 c.B, .bool c.ws, .bool c.cs] 23)).cell? ⟨w.heap.size, 1, none⟩ = some (.int .i64 c.H) ∧ (w.alloc (.cells #[.int .i64 c.W, .int .i64 c.H, .int .i64 c.L, .int .i64 c.D, .int .i64 c.R, .int .i64 c.I, .int .i64 c.B, .bool c.ws, .bool c.cs] 23)).cell? ⟨w.heap.size, 2, none⟩ = some (.int .i64 c.L) ∧ (w.alloc (.cells #[.int .i64 c.W, .int .i64 c.H, .int .i64 c.L, .int .i64 c.D, .int .i64 c.R, .int .i64 c.I, .int .i64 c.B, .bool c.ws, .bool c.cs] 23)).cell? ⟨w.heap.size, 3, none⟩ = some (.int .i64 c.D) ∧ (w.alloc (.cells #[.int .i64 c.W, .int .i64 c.H, .int .i64 c.L, .int .i64 c.D, .int .i64 c.R, .int .i64 c.I, .int .i64 c.B, .bool c.ws, .bool c.cs] 23)).cell? ⟨w.heap.size, 4, none⟩ = some (.int .i64 c.R) ∧ (w.alloc (.cells #[.int .i64 c.W, .int .i64 c.H, .int .i64 c.L, .int .i64 c.D, .int .i64 c.R, .int .i64 c.I, .int .i64 c.B, .bool c.ws, .bool c.cs] 23)).cell? ⟨w.heap.size, 5, none⟩ = some (.int .i64 c.I) ∧ (w.alloc (.cells #[.int .i64 c.W, .int .i64 c.H, .int .i64 c.L, .int .i64 c.D, .int .i64 c.R, .int .i64 c.I, .int .i64 c.B, .bool c.ws, .bool c.cs] 23)).cell? ⟨w.heap.size, 6, none⟩ = some (.int .i64 c.B) ∧ (w.alloc (.cells #[.int .i64 c.W, .int .i64 c.H, .int .i64 c.L, .int .i64 c.D, .int .i64 c.R, .int .i64 c.I, .int .i64 c.B, .bool c.ws, .bool c.cs] 23)).cell? ⟨w.heap.size, 7, none⟩ = some (.bool c.ws) ∧ (w.alloc (.cells #[.int .i64 c.W, .int .i64 c.H, .int .i64 c.L, .int .i64 c.D, .int .i64 c.R, .int .i64 c.I, .int .i64 c.B, .bool c.ws, .bool c.cs] 23)).cell? ⟨w.heap.size, 8, none⟩ = some (.bool c.cs) ∧ w.heap.size < (w.alloc (.cells #[.int .i64 c.W, .int .i64 c.H, .int .i64 c.L, .int .i64 c.D, .int .i64 c.R, .int .i64 c.I, .int .i64 c.B, .bool c.ws, .bool c.cs] 23)).heap.size ∧ Below w.heap.size w (w.alloc (.cells #[.int .i64 c.W, .int .i64 c.H, .int .i64 c.L, .int .i64 c.D, .int .i64 c.R, .int .i64 c.I, .int .i64 c.B, .bool c.ws, .bool c.cs] 23)) := by
  refine ⟨?_, ?_, ?_, ?_, ?_, ?_, ?_, ?_, ?_, by simp, balloc (Below.refl _ _) _⟩
  all_goals simp

theorem allocS {c : Cfg} {g : Nat} {w W : World} (o : Obj) (h : W.cell? ⟨g, 0, none⟩ = some (.int .i64 c.W) ∧ W.cell? ⟨g, 1, none⟩ = some (.int .i64 c.H) ∧ W.cell? ⟨g, 2, none⟩ = some (.int .i64 c.L) ∧ W.cell? ⟨g, 3, none⟩ = some (.int .i64 c.D) ∧ W.cell? ⟨g, 4, none⟩ = some (.int .i64 c.R) ∧ W.cell? ⟨g, 5, none⟩ = some (.int .i64 c.I) ∧ W.cell? ⟨g, 6, none⟩ = some (.int .i64 c.B) ∧ W.cell? ⟨g, 7, none⟩ = some (.bool c.ws) ∧ W.cell? ⟨g, 8, none⟩ = some (.bool c.cs) ∧ g < W.heap.size ∧ Below w.heap.size w W) : (W.alloc o).cell? ⟨g, 0, none⟩ = some (.int .i64 c.W) ∧ (W.alloc o).cell? ⟨g, 1, none⟩ = some (.int .i64 c.H) ∧ (W.alloc o).cell? ⟨g, 2, none⟩ = some (.int .i64 c.L) ∧ (W.alloc o).cell? ⟨g, 3, none⟩ = some (.int .i64 c.D) ∧ (W.alloc o).cell? ⟨g, 4, none⟩ = some (.int .i64 c.R) ∧ (W.alloc o).cell? ⟨g, 5, none⟩ = some (.int .i64 c.I) ∧ (W.alloc o).cell? ⟨g, 6, none⟩ = some (.int .i64 c.B) ∧ (W.alloc o).cell? ⟨g, 7, none⟩ = some (.bool c.ws) ∧ (W.alloc o).cell? ⟨g, 8, none⟩ = some (.bool c.cs) ∧ g < (W.alloc o).heap.size ∧ Below w.heap.size w (W.alloc o) := by
  obtain ⟨h0, h1, h2, h3, h4, h5, h6, h7, h8, hg, hB⟩ := h
  refine ⟨?_, ?_, ?_, ?_, ?_, ?_, ?_, ?_, ?_, by simp; omega, balloc hB o⟩
  all_goals rw [World.cell?_alloc_lt W o _ (by exact hg)]; assumption

theorem drewNS {c : Cfg} {g : Nat} {w W : World} (q : Nat) (h : W.cell? ⟨g, 0, none⟩ = some (.int .i64 c.W) ∧ W.cell? ⟨g, 1, none⟩ = some (.int .i64 c.H) ∧ W.cell? ⟨g, 2, none⟩ = some (.int .i64 c.L) ∧ W.cell? ⟨g, 3, none⟩ = some (.int .i64 c.D) ∧ W.cell? ⟨g, 4, none⟩ = some (.int .i64 c.R) ∧ W.cell? ⟨g, 5, none⟩ = some (.int .i64 c.I) ∧ W.cell? ⟨g, 6, none⟩ = some (.int .i64 c.B) ∧ W.cell? ⟨g, 7, none⟩ = some (.bool c.ws) ∧ W.cell? ⟨g, 8, none⟩ = some (.bool c.cs) ∧ g < W.heap.size ∧ Below w.heap.size w W) : (W.drewN q).cell? ⟨g, 0, none⟩ = some (.int .i64 c.W) ∧ (W.drewN q).cell? ⟨g, 1, none⟩ = some (.int .i64 c.H) ∧ (W.drewN q).cell? ⟨g, 2, none⟩ = some (.int .i64 c.L) ∧ (W.drewN q).cell? ⟨g, 3, none⟩ = some (.int .i64 c.D) ∧ (W.drewN q).cell? ⟨g, 4, none⟩ = some (.int .i64 c.R) ∧ (W.drewN q).cell? ⟨g, 5, none⟩ = some (.int .i64 c.I) ∧ (W.drewN q).cell? ⟨g, 6, none⟩ = some (.int .i64 c.B) ∧ (W.drewN q).cell? ⟨g, 7, none⟩ = some (.bool c.ws) ∧ (W.drewN q).cell? ⟨g, 8, none⟩ = some (.bool c.cs) ∧ g < (W.drewN q).heap.size ∧ Below w.heap.size w (W.drewN q) := ⟨h.1, h.2.1, h.2.2.1, h.2.2.2.1, h.2.2.2.2.1, h.2.2.2.2.2.1, h.2.2.2.2.2.2.1, h.2.2.2.2.2.2.2.1, h.2.2.2.2.2.2.2.2.1, h.2.2.2.2.2.2.2.2.2.1, bdrewN h.2.2.2.2.2.2.2.2.2.2 q⟩

theorem sB {c : Cfg} {g : Nat} {w W : World} (h : W.cell? ⟨g, 0, none⟩ = some (.int .i64 c.W) ∧ W.cell? ⟨g, 1, none⟩ = some (.int .i64 c.H) ∧ W.cell? ⟨g, 2, none⟩ = some (.int .i64 c.L) ∧ W.cell? ⟨g, 3, none⟩ = some (.int .i64 c.D) ∧ W.cell? ⟨g, 4, none⟩ = some (.int .i64 c.R) ∧ W.cell? ⟨g, 5, none⟩ = some (.int .i64 c.I) ∧ W.cell? ⟨g, 6, none⟩ = some (.int .i64 c.B) ∧ W.cell? ⟨g, 7, none⟩ = some (.bool c.ws) ∧ W.cell? ⟨g, 8, none⟩ = some (.bool c.cs) ∧ g < W.heap.size ∧ Below w.heap.size w W) : Below w.heap.size w W := h.2.2.2.2.2.2.2.2.2.2

theorem f35_is (c : Cfg) (n x y e : Int) (h : placeP c n = (x, y, e)) (w : World) :
    Calls Try.prog 35 #[cv c, .int .i64 n] w fun e' w' => e' = .returned (.tuple #[.int .i64 x, .int .i64 y, .int .i64 e]) ∧ Below w.heap.size w w' := by
  have := f35_any c n w
  rw [h] at this
  exact this

set_option maxHeartbeats 1000000 in
theorem f82_any (w : World) :
    Calls Try.prog 82 #[] w fun e w' => e = .returned (.agg #[.int .i64 0, .int .i64 0, .int .i64 1, .int .i64 0, .int .i64 (-1), .int .i64 0, .int .i64 0, .int .i64 1, .int .i64 0, .int .i64 (-1)]) ∧ Below w.heap.size w w' := by
  go_enter Try.func82, Try.ntmps82
  go_wp2
  exact bodyPost_ret (v := .agg #[.int .i64 0, .int .i64 0, .int .i64 1, .int .i64 0, .int .i64 (-1), .int .i64 0, .int .i64 0, .int .i64 1, .int .i64 0, .int .i64 (-1)]) (by simp [results, Try.results82, go_sem]) rfl ⟨rfl, balloc (Below.refl _ _) _⟩

set_option maxHeartbeats 1000000 in
set_option maxRecDepth 20000 in
theorem f34_0 (c : Cfg) (n : Int) (h : isB c n = true) (w : World) :
    Calls Try.prog 34 #[cv c, .int .i64 n, .int .i64 0] w fun e w' => e = .returned (.tuple #[.int .i64 (besideP c n 0).1, .bool (besideP c n 0).2]) ∧ Below w.heap.size w w' := by
  have hi := inn h
  have x0 := hi.x0
  have x2 := hi.x2
  have y0 := hi.y0
  have y2 := hi.y2
  clear hi
  have HP := Hd.mk (place_yes h)
  have HA : Hd (besideP c n 0 = ((atP c (n % c.W) (n / c.W)).1, (atP c (n % c.W) (n / c.W)).2 == 0)) := ⟨by
    rw [besideP_at h (by omega) (by omega)]
    rw [show n % c.W + dxP 0 = n % c.W from by simp [dxP]; try omega, show n / c.W + dyP 0 = n / c.W from by simp [dyP]; try omega]⟩
  clear h
  have i0 : ∀ W : World, (Instr.index 83 (.agg #[.int .i64 0, .int .i64 0, .int .i64 1, .int .i64 0, .int .i64 (-1), .int .i64 0, .int .i64 0, .int .i64 1, .int .i64 0, .int .i64 (-1)]) (.int .i64 0)).run Try.prog W = .ok (.agg #[.int .i64 (0), .int .i64 (0)]) W := fun _ => by kernel_rfl
  go_enter Try.func34, Try.ntmps34
  go_wp2_with fail
  refine (f35_is c n _ _ _ HP.out _).mono ?_
  rintro e w1 ⟨rfl, hb1⟩
  have S1 := keepS hb1 (s0 c w)
  clear hb1
  go_wp2_with fail
  refine (f82_any _).mono ?_
  rintro e w2 ⟨rfl, hb2⟩
  have S2 := keepS hb2 S1
  clear hb2
  clear S1
  go_wp2_with fail
  refine (f36_any c _ _ _).mono ?_
  rintro e w3 ⟨rfl, hb3⟩
  have B3 := bstep (balloc (sB S2) _) hb3
  clear hb3 S2
  go_wp2
  go_ret2
  exact ⟨ret2_ib HA.out, B3⟩

set_option maxHeartbeats 1000000 in
set_option maxRecDepth 20000 in
theorem f34_1 (c : Cfg) (n : Int) (h : isB c n = true) (w : World) :
    Calls Try.prog 34 #[cv c, .int .i64 n, .int .i64 1] w fun e w' => e = .returned (.tuple #[.int .i64 (besideP c n 1).1, .bool (besideP c n 1).2]) ∧ Below w.heap.size w w' := by
  have hi := inn h
  have x0 := hi.x0
  have x2 := hi.x2
  have y0 := hi.y0
  have y2 := hi.y2
  clear hi
  have HP := Hd.mk (place_yes h)
  have HA : Hd (besideP c n 1 = ((atP c (n % c.W + 1) (n / c.W)).1, (atP c (n % c.W + 1) (n / c.W)).2 == 0)) := ⟨by
    rw [besideP_at h (by omega) (by omega)]
    rw [show n % c.W + dxP 1 = n % c.W + 1 from by simp [dxP]; try omega, show n / c.W + dyP 1 = n / c.W from by simp [dyP]; try omega]⟩
  clear h
  have i0 : ∀ W : World, (Instr.index 83 (.agg #[.int .i64 0, .int .i64 0, .int .i64 1, .int .i64 0, .int .i64 (-1), .int .i64 0, .int .i64 0, .int .i64 1, .int .i64 0, .int .i64 (-1)]) (.int .i64 1)).run Try.prog W = .ok (.agg #[.int .i64 (1), .int .i64 (0)]) W := fun _ => by kernel_rfl
  go_enter Try.func34, Try.ntmps34
  go_wp2_with fail
  refine (f35_is c n _ _ _ HP.out _).mono ?_
  rintro e w1 ⟨rfl, hb1⟩
  have S1 := keepS hb1 (s0 c w)
  clear hb1
  go_wp2_with fail
  refine (f82_any _).mono ?_
  rintro e w2 ⟨rfl, hb2⟩
  have S2 := keepS hb2 S1
  clear hb2
  clear S1
  go_wp2_with fail
  refine (f36_any c _ _ _).mono ?_
  rintro e w3 ⟨rfl, hb3⟩
  have B3 := bstep (balloc (sB S2) _) hb3
  clear hb3 S2
  go_wp2
  go_ret2
  exact ⟨ret2_ib HA.out, B3⟩

set_option maxHeartbeats 1000000 in
set_option maxRecDepth 20000 in
theorem f34_2 (c : Cfg) (n : Int) (h : isB c n = true) (w : World) :
    Calls Try.prog 34 #[cv c, .int .i64 n, .int .i64 2] w fun e w' => e = .returned (.tuple #[.int .i64 (besideP c n 2).1, .bool (besideP c n 2).2]) ∧ Below w.heap.size w w' := by
  have hi := inn h
  have x0 := hi.x0
  have x2 := hi.x2
  have y0 := hi.y0
  have y2 := hi.y2
  clear hi
  have HP := Hd.mk (place_yes h)
  have HA : Hd (besideP c n 2 = ((atP c (n % c.W - 1) (n / c.W)).1, (atP c (n % c.W - 1) (n / c.W)).2 == 0)) := ⟨by
    rw [besideP_at h (by omega) (by omega)]
    rw [show n % c.W + dxP 2 = n % c.W - 1 from by simp [dxP]; try omega, show n / c.W + dyP 2 = n / c.W from by simp [dyP]; try omega]⟩
  clear h
  have i0 : ∀ W : World, (Instr.index 83 (.agg #[.int .i64 0, .int .i64 0, .int .i64 1, .int .i64 0, .int .i64 (-1), .int .i64 0, .int .i64 0, .int .i64 1, .int .i64 0, .int .i64 (-1)]) (.int .i64 2)).run Try.prog W = .ok (.agg #[.int .i64 (-1), .int .i64 (0)]) W := fun _ => by kernel_rfl
  go_enter Try.func34, Try.ntmps34
  go_wp2_with fail
  refine (f35_is c n _ _ _ HP.out _).mono ?_
  rintro e w1 ⟨rfl, hb1⟩
  have S1 := keepS hb1 (s0 c w)
  clear hb1
  go_wp2_with fail
  refine (f82_any _).mono ?_
  rintro e w2 ⟨rfl, hb2⟩
  have S2 := keepS hb2 S1
  clear hb2
  clear S1
  go_wp2_with fail
  refine (f36_any c _ _ _).mono ?_
  rintro e w3 ⟨rfl, hb3⟩
  have B3 := bstep (balloc (sB S2) _) hb3
  clear hb3 S2
  go_wp2
  go_ret2
  exact ⟨ret2_ib HA.out, B3⟩

set_option maxHeartbeats 1000000 in
set_option maxRecDepth 20000 in
theorem f34_3 (c : Cfg) (n : Int) (h : isB c n = true) (w : World) :
    Calls Try.prog 34 #[cv c, .int .i64 n, .int .i64 3] w fun e w' => e = .returned (.tuple #[.int .i64 (besideP c n 3).1, .bool (besideP c n 3).2]) ∧ Below w.heap.size w w' := by
  have hi := inn h
  have x0 := hi.x0
  have x2 := hi.x2
  have y0 := hi.y0
  have y2 := hi.y2
  clear hi
  have HP := Hd.mk (place_yes h)
  have HA : Hd (besideP c n 3 = ((atP c (n % c.W) (n / c.W + 1)).1, (atP c (n % c.W) (n / c.W + 1)).2 == 0)) := ⟨by
    rw [besideP_at h (by omega) (by omega)]
    rw [show n % c.W + dxP 3 = n % c.W from by simp [dxP]; try omega, show n / c.W + dyP 3 = n / c.W + 1 from by simp [dyP]; try omega]⟩
  clear h
  have i0 : ∀ W : World, (Instr.index 83 (.agg #[.int .i64 0, .int .i64 0, .int .i64 1, .int .i64 0, .int .i64 (-1), .int .i64 0, .int .i64 0, .int .i64 1, .int .i64 0, .int .i64 (-1)]) (.int .i64 3)).run Try.prog W = .ok (.agg #[.int .i64 (0), .int .i64 (1)]) W := fun _ => by kernel_rfl
  go_enter Try.func34, Try.ntmps34
  go_wp2_with fail
  refine (f35_is c n _ _ _ HP.out _).mono ?_
  rintro e w1 ⟨rfl, hb1⟩
  have S1 := keepS hb1 (s0 c w)
  clear hb1
  go_wp2_with fail
  refine (f82_any _).mono ?_
  rintro e w2 ⟨rfl, hb2⟩
  have S2 := keepS hb2 S1
  clear hb2
  clear S1
  go_wp2_with fail
  refine (f36_any c _ _ _).mono ?_
  rintro e w3 ⟨rfl, hb3⟩
  have B3 := bstep (balloc (sB S2) _) hb3
  clear hb3 S2
  go_wp2
  go_ret2
  exact ⟨ret2_ib HA.out, B3⟩

set_option maxHeartbeats 1000000 in
set_option maxRecDepth 20000 in
theorem f34_4 (c : Cfg) (n : Int) (h : isB c n = true) (w : World) :
    Calls Try.prog 34 #[cv c, .int .i64 n, .int .i64 4] w fun e w' => e = .returned (.tuple #[.int .i64 (besideP c n 4).1, .bool (besideP c n 4).2]) ∧ Below w.heap.size w w' := by
  have hi := inn h
  have x0 := hi.x0
  have x2 := hi.x2
  have y0 := hi.y0
  have y2 := hi.y2
  clear hi
  have HP := Hd.mk (place_yes h)
  have HA : Hd (besideP c n 4 = ((atP c (n % c.W) (n / c.W - 1)).1, (atP c (n % c.W) (n / c.W - 1)).2 == 0)) := ⟨by
    rw [besideP_at h (by omega) (by omega)]
    rw [show n % c.W + dxP 4 = n % c.W from by simp [dxP]; try omega, show n / c.W + dyP 4 = n / c.W - 1 from by simp [dyP]; try omega]⟩
  clear h
  have i0 : ∀ W : World, (Instr.index 83 (.agg #[.int .i64 0, .int .i64 0, .int .i64 1, .int .i64 0, .int .i64 (-1), .int .i64 0, .int .i64 0, .int .i64 1, .int .i64 0, .int .i64 (-1)]) (.int .i64 4)).run Try.prog W = .ok (.agg #[.int .i64 (0), .int .i64 (-1)]) W := fun _ => by kernel_rfl
  go_enter Try.func34, Try.ntmps34
  go_wp2_with fail
  refine (f35_is c n _ _ _ HP.out _).mono ?_
  rintro e w1 ⟨rfl, hb1⟩
  have S1 := keepS hb1 (s0 c w)
  clear hb1
  go_wp2_with fail
  refine (f82_any _).mono ?_
  rintro e w2 ⟨rfl, hb2⟩
  have S2 := keepS hb2 S1
  clear hb2
  clear S1
  go_wp2_with fail
  refine (f36_any c _ _ _).mono ?_
  rintro e w3 ⟨rfl, hb3⟩
  have B3 := bstep (balloc (sB S2) _) hb3
  clear hb3 S2
  go_wp2
  go_ret2
  exact ⟨ret2_ib HA.out, B3⟩

set_option maxHeartbeats 1000000 in
set_option maxRecDepth 20000 in
theorem f34_no (c : Cfg) (n p : Int) (h : isB c n = false) (w : World) :
    Calls Try.prog 34 #[cv c, .int .i64 n, .int .i64 p] w fun e w' => e = .returned (.tuple #[.int .i64 (besideP c n p).1, .bool (besideP c n p).2]) ∧ Below w.heap.size w w' := by
  have HP := Hd.mk (place_no h)
  have HA : Hd (besideP c n p = (0, false)) := ⟨besideP_no (by rw [h]; simp)⟩
  clear h
  go_enter Try.func34, Try.ntmps34
  go_wp2_with fail
  refine (f35_is c n _ _ _ HP.out _).mono ?_
  rintro e w1 ⟨rfl, hb1⟩
  have S1 := keepS hb1 (s0 c w)
  clear hb1
  go_wp2
  go_ret2
  exact ⟨ret2_ib HA.out, sB S1⟩

set_option maxHeartbeats 1000000 in
set_option maxRecDepth 20000 in
theorem f34_out (c : Cfg) (n p : Int) (h : isB c n = true) (hp : p < 0 ∨ (0 ≤ p ∧ 5 ≤ p)) (w : World) :
    Calls Try.prog 34 #[cv c, .int .i64 n, .int .i64 p] w fun e w' => e = .returned (.tuple #[.int .i64 (besideP c n p).1, .bool (besideP c n p).2]) ∧ Below w.heap.size w w' := by
  have HP := Hd.mk (place_yes h)
  have HA : Hd (besideP c n p = (0, false)) := ⟨besideP_no (by omega)⟩
  clear h
  rcases hp with hp | ⟨hq, hp⟩
  · go_enter Try.func34, Try.ntmps34
    go_wp2_with fail
    refine (f35_is c n _ _ _ HP.out _).mono ?_
    rintro e w1 ⟨rfl, hb1⟩
    have S1 := keepS hb1 (s0 c w)
    clear hb1
    go_wp2
    go_ret2
    exact ⟨ret2_ib HA.out, sB S1⟩
  · go_enter Try.func34, Try.ntmps34
    go_wp2_with fail
    refine (f35_is c n _ _ _ HP.out _).mono ?_
    rintro e w1 ⟨rfl, hb1⟩
    have S1 := keepS hb1 (s0 c w)
    clear hb1
    go_wp2
    go_ret2
    exact ⟨ret2_ib HA.out, sB S1⟩

theorem f34_any (c : Cfg) (n p : Int) (w : World) :
    Calls Try.prog 34 #[cv c, .int .i64 n, .int .i64 p] w fun e w' => e = .returned (.tuple #[.int .i64 (besideP c n p).1, .bool (besideP c n p).2]) ∧ Below w.heap.size w w' := by
  rcases h : isB c n with _ | _
  · exact f34_no c n p h w
  · by_cases hp : 0 ≤ p ∧ p < 5
    · have hp : p = 0 ∨ p = 1 ∨ p = 2 ∨ p = 3 ∨ p = 4 := by omega
      rcases hp with rfl | rfl | rfl | rfl | rfl
      · exact f34_0 c n h w
      · exact f34_1 c n h w
      · exact f34_2 c n h w
      · exact f34_3 c n h w
      · exact f34_4 c n h w
    · exact f34_out c n p h (by omega) w

theorem f34_is (c : Cfg) (n p x : Int) (b : Bool) (h : besideP c n p = (x, b)) (w : World) :
    Calls Try.prog 34 #[cv c, .int .i64 n, .int .i64 p] w fun e w' => e = .returned (.tuple #[.int .i64 x, .bool b]) ∧ Below w.heap.size w w' := by
  have := f34_any c n p w
  rw [h] at this
  exact this

set_option maxHeartbeats 1000000 in
set_option maxRecDepth 20000 in
theorem f41_0 (c : Cfg) (n : Int) (h : isB c n = true) (w : World) :
    Calls Try.prog 41 #[cv c, .int .i64 n, .int .i64 0] w fun e w' => e = .returned (.tuple #[.int .i64 (besideP c n 0).1, .bool (besideP c n 0).2]) ∧ Below w.heap.size w w' := by
  have hi := inn h
  have x0 := hi.x0
  have x2 := hi.x2
  have y0 := hi.y0
  have y2 := hi.y2
  clear hi
  have hk := chk_okc (isB_chk h)
  have k1 := hk.W1
  have k2 := hk.W2
  have n0 := (inn h).n0
  have n1 := (inn h).n1
  clear hk
  have HB := Hd.mk h
  have HA : Hd (besideP c n 0 = ((atP c (n % c.W) (n / c.W)).1, (atP c (n % c.W) (n / c.W)).2 == 0)) := ⟨by
    rw [besideP_at h (by omega) (by omega)]
    rw [show n % c.W + dxP 0 = n % c.W from by simp [dxP]; try omega, show n / c.W + dyP 0 = n / c.W from by simp [dyP]; try omega]⟩
  clear h
  go_enter Try.func41, Try.ntmps41
  go_wp2_with fail
  refine (f38_is c n true HB.out _).mono ?_
  rintro e w1 ⟨rfl, hb1⟩
  have S1 := keepS hb1 (s0 c w)
  clear hb1
  go_wp2_with fail
  have HS2 := Hd.mk S1
  clear S1
  go_region_held3 (fun W => W.cell? ⟨w.heap.size, 0, none⟩ = some (.int .i64 c.W) ∧ W.cell? ⟨w.heap.size, 1, none⟩ = some (.int .i64 c.H) ∧ W.cell? ⟨w.heap.size, 2, none⟩ = some (.int .i64 c.L) ∧ W.cell? ⟨w.heap.size, 3, none⟩ = some (.int .i64 c.D) ∧ W.cell? ⟨w.heap.size, 4, none⟩ = some (.int .i64 c.R) ∧ W.cell? ⟨w.heap.size, 5, none⟩ = some (.int .i64 c.I) ∧ W.cell? ⟨w.heap.size, 6, none⟩ = some (.int .i64 c.B) ∧ W.cell? ⟨w.heap.size, 7, none⟩ = some (.bool c.ws) ∧ W.cell? ⟨w.heap.size, 8, none⟩ = some (.bool c.cs) ∧ w.heap.size < W.heap.size ∧ Below w.heap.size w W) (first | exact dS HS2.out | exact keepS (by assumption) (by assumption))
    (first | (go_at_call 39; refine (f39_any c n n0 n1 k1 k2 _).mono ?_; rintro e wq ⟨rfl, hbq⟩) | (go_at_call 40; refine (f40_any c n n0 n1 k1 k2 _).mono ?_; rintro e wq ⟨rfl, hbq⟩))
  rename_i S2
  go_wp2_with fail
  refine (f37_any c _ _ _).mono ?_
  rintro e w3 ⟨rfl, hb3⟩
  have S3 := keepS hb3 S2
  clear hb3
  clear S2
  go_wp2
  go_ret2
  exact ⟨ret2_ib HA.out, sB S3⟩

set_option maxHeartbeats 1000000 in
set_option maxRecDepth 20000 in
theorem f41_1 (c : Cfg) (n : Int) (h : isB c n = true) (w : World) :
    Calls Try.prog 41 #[cv c, .int .i64 n, .int .i64 1] w fun e w' => e = .returned (.tuple #[.int .i64 (besideP c n 1).1, .bool (besideP c n 1).2]) ∧ Below w.heap.size w w' := by
  have hi := inn h
  have x0 := hi.x0
  have x2 := hi.x2
  have y0 := hi.y0
  have y2 := hi.y2
  clear hi
  have hk := chk_okc (isB_chk h)
  have k1 := hk.W1
  have k2 := hk.W2
  have n0 := (inn h).n0
  have n1 := (inn h).n1
  clear hk
  have HB := Hd.mk h
  have HA : Hd (besideP c n 1 = ((atP c (n % c.W + 1) (n / c.W)).1, (atP c (n % c.W + 1) (n / c.W)).2 == 0)) := ⟨by
    rw [besideP_at h (by omega) (by omega)]
    rw [show n % c.W + dxP 1 = n % c.W + 1 from by simp [dxP]; try omega, show n / c.W + dyP 1 = n / c.W from by simp [dyP]; try omega]⟩
  clear h
  go_enter Try.func41, Try.ntmps41
  go_wp2_with fail
  refine (f38_is c n true HB.out _).mono ?_
  rintro e w1 ⟨rfl, hb1⟩
  have S1 := keepS hb1 (s0 c w)
  clear hb1
  go_wp2_with fail
  have HS2 := Hd.mk S1
  clear S1
  go_region_held3 (fun W => W.cell? ⟨w.heap.size, 0, none⟩ = some (.int .i64 c.W) ∧ W.cell? ⟨w.heap.size, 1, none⟩ = some (.int .i64 c.H) ∧ W.cell? ⟨w.heap.size, 2, none⟩ = some (.int .i64 c.L) ∧ W.cell? ⟨w.heap.size, 3, none⟩ = some (.int .i64 c.D) ∧ W.cell? ⟨w.heap.size, 4, none⟩ = some (.int .i64 c.R) ∧ W.cell? ⟨w.heap.size, 5, none⟩ = some (.int .i64 c.I) ∧ W.cell? ⟨w.heap.size, 6, none⟩ = some (.int .i64 c.B) ∧ W.cell? ⟨w.heap.size, 7, none⟩ = some (.bool c.ws) ∧ W.cell? ⟨w.heap.size, 8, none⟩ = some (.bool c.cs) ∧ w.heap.size < W.heap.size ∧ Below w.heap.size w W) (first | exact dS HS2.out | exact keepS (by assumption) (by assumption))
    (first | (go_at_call 39; refine (f39_any c n n0 n1 k1 k2 _).mono ?_; rintro e wq ⟨rfl, hbq⟩) | (go_at_call 40; refine (f40_any c n n0 n1 k1 k2 _).mono ?_; rintro e wq ⟨rfl, hbq⟩))
  rename_i S2
  go_wp2_with fail
  refine (f37_any c _ _ _).mono ?_
  rintro e w3 ⟨rfl, hb3⟩
  have S3 := keepS hb3 S2
  clear hb3
  clear S2
  go_wp2
  go_ret2
  exact ⟨ret2_ib HA.out, sB S3⟩

set_option maxHeartbeats 1000000 in
set_option maxRecDepth 20000 in
theorem f41_2 (c : Cfg) (n : Int) (h : isB c n = true) (w : World) :
    Calls Try.prog 41 #[cv c, .int .i64 n, .int .i64 2] w fun e w' => e = .returned (.tuple #[.int .i64 (besideP c n 2).1, .bool (besideP c n 2).2]) ∧ Below w.heap.size w w' := by
  have hi := inn h
  have x0 := hi.x0
  have x2 := hi.x2
  have y0 := hi.y0
  have y2 := hi.y2
  clear hi
  have hk := chk_okc (isB_chk h)
  have k1 := hk.W1
  have k2 := hk.W2
  have n0 := (inn h).n0
  have n1 := (inn h).n1
  clear hk
  have HB := Hd.mk h
  have HA : Hd (besideP c n 2 = ((atP c (n % c.W - 1) (n / c.W)).1, (atP c (n % c.W - 1) (n / c.W)).2 == 0)) := ⟨by
    rw [besideP_at h (by omega) (by omega)]
    rw [show n % c.W + dxP 2 = n % c.W - 1 from by simp [dxP]; try omega, show n / c.W + dyP 2 = n / c.W from by simp [dyP]; try omega]⟩
  clear h
  go_enter Try.func41, Try.ntmps41
  go_wp2_with fail
  refine (f38_is c n true HB.out _).mono ?_
  rintro e w1 ⟨rfl, hb1⟩
  have S1 := keepS hb1 (s0 c w)
  clear hb1
  go_wp2_with fail
  have HS2 := Hd.mk S1
  clear S1
  go_region_held3 (fun W => W.cell? ⟨w.heap.size, 0, none⟩ = some (.int .i64 c.W) ∧ W.cell? ⟨w.heap.size, 1, none⟩ = some (.int .i64 c.H) ∧ W.cell? ⟨w.heap.size, 2, none⟩ = some (.int .i64 c.L) ∧ W.cell? ⟨w.heap.size, 3, none⟩ = some (.int .i64 c.D) ∧ W.cell? ⟨w.heap.size, 4, none⟩ = some (.int .i64 c.R) ∧ W.cell? ⟨w.heap.size, 5, none⟩ = some (.int .i64 c.I) ∧ W.cell? ⟨w.heap.size, 6, none⟩ = some (.int .i64 c.B) ∧ W.cell? ⟨w.heap.size, 7, none⟩ = some (.bool c.ws) ∧ W.cell? ⟨w.heap.size, 8, none⟩ = some (.bool c.cs) ∧ w.heap.size < W.heap.size ∧ Below w.heap.size w W) (first | exact dS HS2.out | exact keepS (by assumption) (by assumption))
    (first | (go_at_call 39; refine (f39_any c n n0 n1 k1 k2 _).mono ?_; rintro e wq ⟨rfl, hbq⟩) | (go_at_call 40; refine (f40_any c n n0 n1 k1 k2 _).mono ?_; rintro e wq ⟨rfl, hbq⟩))
  rename_i S2
  go_wp2_with fail
  refine (f37_any c _ _ _).mono ?_
  rintro e w3 ⟨rfl, hb3⟩
  have S3 := keepS hb3 S2
  clear hb3
  clear S2
  go_wp2
  go_ret2
  exact ⟨ret2_ib HA.out, sB S3⟩

set_option maxHeartbeats 1000000 in
set_option maxRecDepth 20000 in
theorem f41_3 (c : Cfg) (n : Int) (h : isB c n = true) (w : World) :
    Calls Try.prog 41 #[cv c, .int .i64 n, .int .i64 3] w fun e w' => e = .returned (.tuple #[.int .i64 (besideP c n 3).1, .bool (besideP c n 3).2]) ∧ Below w.heap.size w w' := by
  have hi := inn h
  have x0 := hi.x0
  have x2 := hi.x2
  have y0 := hi.y0
  have y2 := hi.y2
  clear hi
  have hk := chk_okc (isB_chk h)
  have k1 := hk.W1
  have k2 := hk.W2
  have n0 := (inn h).n0
  have n1 := (inn h).n1
  clear hk
  have HB := Hd.mk h
  have HA : Hd (besideP c n 3 = ((atP c (n % c.W) (n / c.W + 1)).1, (atP c (n % c.W) (n / c.W + 1)).2 == 0)) := ⟨by
    rw [besideP_at h (by omega) (by omega)]
    rw [show n % c.W + dxP 3 = n % c.W from by simp [dxP]; try omega, show n / c.W + dyP 3 = n / c.W + 1 from by simp [dyP]; try omega]⟩
  clear h
  go_enter Try.func41, Try.ntmps41
  go_wp2_with fail
  refine (f38_is c n true HB.out _).mono ?_
  rintro e w1 ⟨rfl, hb1⟩
  have S1 := keepS hb1 (s0 c w)
  clear hb1
  go_wp2_with fail
  have HS2 := Hd.mk S1
  clear S1
  go_region_held3 (fun W => W.cell? ⟨w.heap.size, 0, none⟩ = some (.int .i64 c.W) ∧ W.cell? ⟨w.heap.size, 1, none⟩ = some (.int .i64 c.H) ∧ W.cell? ⟨w.heap.size, 2, none⟩ = some (.int .i64 c.L) ∧ W.cell? ⟨w.heap.size, 3, none⟩ = some (.int .i64 c.D) ∧ W.cell? ⟨w.heap.size, 4, none⟩ = some (.int .i64 c.R) ∧ W.cell? ⟨w.heap.size, 5, none⟩ = some (.int .i64 c.I) ∧ W.cell? ⟨w.heap.size, 6, none⟩ = some (.int .i64 c.B) ∧ W.cell? ⟨w.heap.size, 7, none⟩ = some (.bool c.ws) ∧ W.cell? ⟨w.heap.size, 8, none⟩ = some (.bool c.cs) ∧ w.heap.size < W.heap.size ∧ Below w.heap.size w W) (first | exact dS HS2.out | exact keepS (by assumption) (by assumption))
    (first | (go_at_call 39; refine (f39_any c n n0 n1 k1 k2 _).mono ?_; rintro e wq ⟨rfl, hbq⟩) | (go_at_call 40; refine (f40_any c n n0 n1 k1 k2 _).mono ?_; rintro e wq ⟨rfl, hbq⟩))
  rename_i S2
  go_wp2_with fail
  refine (f37_any c _ _ _).mono ?_
  rintro e w3 ⟨rfl, hb3⟩
  have S3 := keepS hb3 S2
  clear hb3
  clear S2
  go_wp2
  go_ret2
  exact ⟨ret2_ib HA.out, sB S3⟩

set_option maxHeartbeats 1000000 in
set_option maxRecDepth 20000 in
theorem f41_4 (c : Cfg) (n : Int) (h : isB c n = true) (w : World) :
    Calls Try.prog 41 #[cv c, .int .i64 n, .int .i64 4] w fun e w' => e = .returned (.tuple #[.int .i64 (besideP c n 4).1, .bool (besideP c n 4).2]) ∧ Below w.heap.size w w' := by
  have hi := inn h
  have x0 := hi.x0
  have x2 := hi.x2
  have y0 := hi.y0
  have y2 := hi.y2
  clear hi
  have hk := chk_okc (isB_chk h)
  have k1 := hk.W1
  have k2 := hk.W2
  have n0 := (inn h).n0
  have n1 := (inn h).n1
  clear hk
  have HB := Hd.mk h
  have HA : Hd (besideP c n 4 = ((atP c (n % c.W) (n / c.W - 1)).1, (atP c (n % c.W) (n / c.W - 1)).2 == 0)) := ⟨by
    rw [besideP_at h (by omega) (by omega)]
    rw [show n % c.W + dxP 4 = n % c.W from by simp [dxP]; try omega, show n / c.W + dyP 4 = n / c.W - 1 from by simp [dyP]; try omega]⟩
  clear h
  go_enter Try.func41, Try.ntmps41
  go_wp2_with fail
  refine (f38_is c n true HB.out _).mono ?_
  rintro e w1 ⟨rfl, hb1⟩
  have S1 := keepS hb1 (s0 c w)
  clear hb1
  go_wp2_with fail
  have HS2 := Hd.mk S1
  clear S1
  go_region_held3 (fun W => W.cell? ⟨w.heap.size, 0, none⟩ = some (.int .i64 c.W) ∧ W.cell? ⟨w.heap.size, 1, none⟩ = some (.int .i64 c.H) ∧ W.cell? ⟨w.heap.size, 2, none⟩ = some (.int .i64 c.L) ∧ W.cell? ⟨w.heap.size, 3, none⟩ = some (.int .i64 c.D) ∧ W.cell? ⟨w.heap.size, 4, none⟩ = some (.int .i64 c.R) ∧ W.cell? ⟨w.heap.size, 5, none⟩ = some (.int .i64 c.I) ∧ W.cell? ⟨w.heap.size, 6, none⟩ = some (.int .i64 c.B) ∧ W.cell? ⟨w.heap.size, 7, none⟩ = some (.bool c.ws) ∧ W.cell? ⟨w.heap.size, 8, none⟩ = some (.bool c.cs) ∧ w.heap.size < W.heap.size ∧ Below w.heap.size w W) (first | exact dS HS2.out | exact keepS (by assumption) (by assumption))
    (first | (go_at_call 39; refine (f39_any c n n0 n1 k1 k2 _).mono ?_; rintro e wq ⟨rfl, hbq⟩) | (go_at_call 40; refine (f40_any c n n0 n1 k1 k2 _).mono ?_; rintro e wq ⟨rfl, hbq⟩))
  rename_i S2
  go_wp2_with fail
  refine (f37_any c _ _ _).mono ?_
  rintro e w3 ⟨rfl, hb3⟩
  have S3 := keepS hb3 S2
  clear hb3
  clear S2
  go_wp2
  go_ret2
  exact ⟨ret2_ib HA.out, sB S3⟩

set_option maxHeartbeats 1000000 in
set_option maxRecDepth 20000 in
theorem f41_no (c : Cfg) (n p : Int) (h : isB c n = false) (w : World) :
    Calls Try.prog 41 #[cv c, .int .i64 n, .int .i64 p] w fun e w' => e = .returned (.tuple #[.int .i64 (besideP c n p).1, .bool (besideP c n p).2]) ∧ Below w.heap.size w w' := by
  have HB := Hd.mk h
  have HA : Hd (besideP c n p = (0, false)) := ⟨besideP_no (by rw [h]; simp)⟩
  clear h
  go_enter Try.func41, Try.ntmps41
  go_wp2_with fail
  refine (f38_is c n false HB.out _).mono ?_
  rintro e w1 ⟨rfl, hb1⟩
  have S1 := keepS hb1 (s0 c w)
  clear hb1
  go_wp2
  go_ret2
  exact ⟨ret2_ib HA.out, sB S1⟩

set_option maxHeartbeats 1000000 in
set_option maxRecDepth 20000 in
theorem f41_out (c : Cfg) (n p : Int) (h : isB c n = true) (hp : p < 0 ∨ (0 ≤ p ∧ 5 ≤ p)) (w : World) :
    Calls Try.prog 41 #[cv c, .int .i64 n, .int .i64 p] w fun e w' => e = .returned (.tuple #[.int .i64 (besideP c n p).1, .bool (besideP c n p).2]) ∧ Below w.heap.size w w' := by
  have HB := Hd.mk h
  have HA : Hd (besideP c n p = (0, false)) := ⟨besideP_no (by omega)⟩
  clear h
  rcases hp with hp | ⟨hq, hp⟩
  · go_enter Try.func41, Try.ntmps41
    go_wp2_with fail
    refine (f38_is c n true HB.out _).mono ?_
    rintro e w1 ⟨rfl, hb1⟩
    have S1 := keepS hb1 (s0 c w)
    clear hb1
    go_wp2
    go_ret2
    exact ⟨ret2_ib HA.out, sB S1⟩
  · go_enter Try.func41, Try.ntmps41
    go_wp2_with fail
    refine (f38_is c n true HB.out _).mono ?_
    rintro e w1 ⟨rfl, hb1⟩
    have S1 := keepS hb1 (s0 c w)
    clear hb1
    go_wp2
    go_ret2
    exact ⟨ret2_ib HA.out, sB S1⟩

theorem f41_any (c : Cfg) (n p : Int) (w : World) :
    Calls Try.prog 41 #[cv c, .int .i64 n, .int .i64 p] w fun e w' => e = .returned (.tuple #[.int .i64 (besideP c n p).1, .bool (besideP c n p).2]) ∧ Below w.heap.size w w' := by
  rcases h : isB c n with _ | _
  · exact f41_no c n p h w
  · by_cases hp : 0 ≤ p ∧ p < 5
    · have hp : p = 0 ∨ p = 1 ∨ p = 2 ∨ p = 3 ∨ p = 4 := by omega
      rcases hp with rfl | rfl | rfl | rfl | rfl
      · exact f41_0 c n h w
      · exact f41_1 c n h w
      · exact f41_2 c n h w
      · exact f41_3 c n h w
      · exact f41_4 c n h w
    · exact f41_out c n p h (by omega) w

theorem f41_is (c : Cfg) (n p x : Int) (b : Bool) (h : besideP c n p = (x, b)) (w : World) :
    Calls Try.prog 41 #[cv c, .int .i64 n, .int .i64 p] w fun e w' => e = .returned (.tuple #[.int .i64 x, .bool b]) ∧ Below w.heap.size w w' := by
  have := f41_any c n p w
  rw [h] at this
  exact this

end Go.Proofs.Ytnbogjiddildaaa
