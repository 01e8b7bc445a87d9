/- Contracts of grid.Ports and the reference's Ports; of the reference's Same. -/
import Derived.Test.YtnbogjiddildaaaG
import Derived.LoopTactic
namespace Go.Proofs.Ytnbogjiddildaaa
open Go.RowKit
set_option linter.unusedSimpArgs false
set_option linter.unusedVariables false

theorem keepG {c : Cfg} {g base : Nat} {w W W' : World} {v : Value} {xs : List Int} (hg : W.grownBy W' v.ownBlock) (hr : Row W base v xs) (hb : g < base) (hw : w.heap.size ≤ base) (h : W.cell? ⟨g, 0, none⟩ = some (.int .i64 c.W) ∧ W.cell? ⟨g, 1, none⟩ = some (.int .i64 c.H) ∧ W.cell? ⟨g, 2, none⟩ = some (.int .i64 c.L) ∧ W.cell? ⟨g, 3, none⟩ = some (.int .i64 c.D) ∧ W.cell? ⟨g, 4, none⟩ = some (.int .i64 c.R) ∧ W.cell? ⟨g, 5, none⟩ = some (.int .i64 c.I) ∧ W.cell? ⟨g, 6, none⟩ = some (.int .i64 c.B) ∧ W.cell? ⟨g, 7, none⟩ = some (.bool c.ws) ∧ W.cell? ⟨g, 8, none⟩ = some (.bool c.cs) ∧ g < W.heap.size ∧ Below w.heap.size w W) : W'.cell? ⟨g, 0, none⟩ = some (.int .i64 c.W) ∧ W'.cell? ⟨g, 1, none⟩ = some (.int .i64 c.H) ∧ W'.cell? ⟨g, 2, none⟩ = some (.int .i64 c.L) ∧ W'.cell? ⟨g, 3, none⟩ = some (.int .i64 c.D) ∧ W'.cell? ⟨g, 4, none⟩ = some (.int .i64 c.R) ∧ W'.cell? ⟨g, 5, none⟩ = some (.int .i64 c.I) ∧ W'.cell? ⟨g, 6, none⟩ = some (.int .i64 c.B) ∧ W'.cell? ⟨g, 7, none⟩ = some (.bool c.ws) ∧ W'.cell? ⟨g, 8, none⟩ = some (.bool c.cs) ∧ g < W'.heap.size ∧ Below w.heap.size w W' := by
  obtain ⟨h0, h1, h2, h3, h4, h5, h6, h7, h8, hl, hB⟩ := h
  have hs := hg.size
  have hne : some g ≠ v.ownBlock := fun e => by have := (hr.lt g e.symm).1; omega
  have hcell : ∀ i u, W.cell? ⟨g, i, none⟩ = some u → W'.cell? ⟨g, i, none⟩ = some u := fun i u hu => hg.cell hu hne
  refine ⟨hcell _ _ h0, hcell _ _ h1, hcell _ _ h2, hcell _ _ h3, hcell _ _ h4, hcell _ _ h5, hcell _ _ h6, hcell _ _ h7, hcell _ _ h8, by omega, hB.grown hg hB.size fun k hk => ?_⟩
  have := (hr.lt k hk).1
  omega

def plP (c : Cfg) (n : Int) (k : Nat) : List Int := ((List.range k).map fun i : Nat => (i : Int) + 1).filter fun q => (besideP c n q).2
def portsP (c : Cfg) (n : Int) : List Int := plP c n 4
theorem plP_len (c : Cfg) (n : Int) (k : Nat) : (plP c n k).length ≤ k := by
  unfold plP
  have := List.length_filter_le (fun q => (besideP c n q).2) ((List.range k).map fun i : Nat => (i : Int) + 1)
  simpa using this
theorem plP_yes {c : Cfg} {n : Int} {k : Nat} (h : (besideP c n ((k : Int) + 1)).2 = true) : plP c n (k + 1) = plP c n k ++ [(k : Int) + 1] := by
  unfold plP
  rw [List.range_succ, List.map_append, List.filter_append]
  simp [h]
theorem plP_no {c : Cfg} {n : Int} {k : Nat} (h : (besideP c n ((k : Int) + 1)).2 = false) : plP c n (k + 1) = plP c n k := by
  unfold plP
  rw [List.range_succ, List.map_append, List.filter_append]
  simp [h]

structure RelPorts (c : Cfg) (n : Int) (w : World) (v i : Value) (W : World) (k : Nat) : Prop where
  k4 : k ≤ 4
  hi : i = .int .i64 ((k : Int) + 1)
  row : Row W (w.heap.size + 1) v (plP c n k)
  s : W.cell? ⟨w.heap.size, 0, none⟩ = some (.int .i64 c.W) ∧ W.cell? ⟨w.heap.size, 1, none⟩ = some (.int .i64 c.H) ∧ W.cell? ⟨w.heap.size, 2, none⟩ = some (.int .i64 c.L) ∧ W.cell? ⟨w.heap.size, 3, none⟩ = some (.int .i64 c.D) ∧ W.cell? ⟨w.heap.size, 4, none⟩ = some (.int .i64 c.R) ∧ W.cell? ⟨w.heap.size, 5, none⟩ = some (.int .i64 c.I) ∧ W.cell? ⟨w.heap.size, 6, none⟩ = some (.int .i64 c.B) ∧ W.cell? ⟨w.heap.size, 7, none⟩ = some (.bool c.ws) ∧ W.cell? ⟨w.heap.size, 8, none⟩ = some (.bool c.cs) ∧ w.heap.size < W.heap.size ∧ Below w.heap.size w W

set_option maxHeartbeats 1000000 in
set_option maxRecDepth 20000 in
theorem f29_any (c : Cfg) (n : Int) (w : World) :
    Calls Try.prog 29 #[cv c, .int .i64 n] w fun e w' => ∃ v, e = .returned v ∧ Row w' w.heap.size v (portsP c n) ∧ Below w.heap.size w w' := by
  go_enter Try.func29, Try.ntmps29
  go_wp2_with fail
  go_loopw [5, 6] (fun v i W => ∃ k : Nat, RelPorts c n w v i W k) (fun _ i _ => 5 - (intOf i).toNat)
  case atStart => exact ⟨0, by omega, rfl, Row.nil_ _ _, s0 c w⟩
  case round =>
    obtain ⟨k, hk4, rfl, hrow, hS⟩ := hrel
    have HR := Hd.mk hrow
    clear hrow
    by_cases hlt : k < 4
    · rcases hb : besideP c n ((k : Int) + 1) with ⟨x, b⟩
      have HB := Hd.mk hb
      clear hb
      cases b
      · go_wp2_with fail
        refine (f34_is c n _ x false HB.out _).mono ?_
        rintro e W1 ⟨rfl, hb1⟩
        have S1 := keepS hb1 hS
        have HR1 := Hd.mk (Row.below HR.out hb1)
        clear hb1 hS HR
        go_wp2
        go_roundw
        case rel => exact ⟨k + 1, by omega, by go_num, by rw [plP_no (by rw [HB.out])]; exact HR1.out, S1⟩
        case measure => simp [intOf]; omega
      · go_wp2_with fail
        refine (f34_is c n _ x true HB.out _).mono ?_
        rintro e W1 ⟨rfl, hb1⟩
        have S1 := keepS hb1 hS
        have HR1 := Hd.mk (Row.below HR.out hb1)
        have hz1 := S1.2.2.2.2.2.2.2.2.2.1
        clear hb1 hS HR
        have hl := plP_len c n k
        go_wp2_with (at_builtin; refine wpList_app1 rfl (.tmp 21) (.tmp 23) rfl (w.heap.size + 1) _ _ rfl _ rfl ((k : Int) + 1) (HR1.out.alloc _) (by simp) (by omega) (by simp; omega) ?_; intro v' W2 hr2 hg2; have S2 := keepG hg2 (HR1.out.alloc _) (by omega) (by omega) (allocS _ S1); have HR2 := Hd.mk hr2; clear hr2 hg2 S1 HR1)
        go_roundw
        case rel => exact ⟨k + 1, by omega, by go_num, by rw [plP_yes (by rw [HB.out])]; exact HR2.out, S2⟩
        case measure => simp [intOf]; omega
    · have hk : k = 4 := by omega
      subst hk
      go_wp2
      go_ret
      exact ⟨_, rfl, HR.out.mono (by omega), sB hS⟩

set_option maxHeartbeats 1000000 in
set_option maxRecDepth 20000 in
theorem f30_any (c : Cfg) (n : Int) (w : World) :
    Calls Try.prog 30 #[cv c, .int .i64 n] w fun e w' => ∃ v, e = .returned v ∧ Row w' w.heap.size v (portsP c n) ∧ Below w.heap.size w w' := by
  go_enter Try.func30, Try.ntmps30
  go_wp2_with fail
  go_loopw [5, 6] (fun v i W => ∃ k : Nat, RelPorts c n w v i W k) (fun _ i _ => 5 - (intOf i).toNat)
  case atStart => exact ⟨0, by omega, rfl, Row.nil_ _ _, s0 c w⟩
  case round =>
    obtain ⟨k, hk4, rfl, hrow, hS⟩ := hrel
    have HR := Hd.mk hrow
    clear hrow
    by_cases hlt : k < 4
    · rcases hb : besideP c n ((k : Int) + 1) with ⟨x, b⟩
      have HB := Hd.mk hb
      clear hb
      cases b
      · go_wp2_with fail
        refine (f41_is c n _ x false HB.out _).mono ?_
        rintro e W1 ⟨rfl, hb1⟩
        have S1 := keepS hb1 hS
        have HR1 := Hd.mk (Row.below HR.out hb1)
        clear hb1 hS HR
        go_wp2
        go_roundw
        case rel => exact ⟨k + 1, by omega, by go_num, by rw [plP_no (by rw [HB.out])]; exact HR1.out, S1⟩
        case measure => simp [intOf]; omega
      · go_wp2_with fail
        refine (f41_is c n _ x true HB.out _).mono ?_
        rintro e W1 ⟨rfl, hb1⟩
        have S1 := keepS hb1 hS
        have HR1 := Hd.mk (Row.below HR.out hb1)
        have hz1 := S1.2.2.2.2.2.2.2.2.2.1
        clear hb1 hS HR
        have hl := plP_len c n k
        go_wp2_with (at_builtin; refine wpList_app1 rfl (.tmp 21) (.tmp 23) rfl (w.heap.size + 1) _ _ rfl _ rfl ((k : Int) + 1) (HR1.out.alloc _) (by simp) (by omega) (by simp; omega) ?_; intro v' W2 hr2 hg2; have S2 := keepG hg2 (HR1.out.alloc _) (by omega) (by omega) (allocS _ S1); have HR2 := Hd.mk hr2; clear hr2 hg2 S1 HR1)
        go_roundw
        case rel => exact ⟨k + 1, by omega, by go_num, by rw [plP_yes (by rw [HB.out])]; exact HR2.out, S2⟩
        case measure => simp [intOf]; omega
    · have hk : k = 4 := by omega
      subst hk
      go_wp2
      go_ret
      exact ⟨_, rfl, HR.out.mono (by omega), sB hS⟩

end Go.Proofs.Ytnbogjiddildaaa
