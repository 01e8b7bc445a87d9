/- Contracts of config.Check, config.Nodes and their references, over whatever config. -/
import Derived.Test.YtnbogjiddildaaaA
namespace Go.Proofs.Ytnbogjiddildaaa
open Go.RowKit
set_option linter.unusedSimpArgs false
set_option linter.unusedVariables false

set_option maxHeartbeats 1000000 in
theorem check1 (c : Cfg) (w : World) (H1 : Hd ((!(outB 64 c.W || outB 64 c.H)) = false)) :
    Calls Try.prog 83 #[cv c] w fun e w' => e = .returned (.int .i64 4) ∧ Below w.heap.size w w' := by
    go_enter Try.func83, Try.ntmps83
    go_wp2_with fail
    refine (within2 64 c.W c.H false _ _ H1.out (by simp) (by simp) (by simp)).mono ?_
    rintro e w1 ⟨rfl, hb1⟩
    have B1 : Below w.heap.size w w1 := bstep (by repeat (first | exact Below.refl _ _ | assumption | refine balloc ?_ _)) hb1
    have hz1 : w.heap.size < w1.heap.size := by have := hb1.size; simp at this; omega
    obtain ⟨hc1, hf1⟩ := bcell hb1
    go_wp2
    go_ret
    exact ⟨rfl, B1⟩

set_option maxHeartbeats 1000000 in
theorem check2 (c : Cfg) (w : World) (H1 : Hd ((!(outB 64 c.W || outB 64 c.H)) = true)) (H2 : Hd ((!(outB 8 c.L)) = false)) :
    Calls Try.prog 83 #[cv c] w fun e w' => e = .returned (.int .i64 10) ∧ Below w.heap.size w w' := by
    go_enter Try.func83, Try.ntmps83
    go_wp2_with fail
    refine (within2 64 c.W c.H true _ _ H1.out (by simp) (by simp) (by simp)).mono ?_
    rintro e w1 ⟨rfl, hb1⟩
    have B1 : Below w.heap.size w w1 := bstep (by repeat (first | exact Below.refl _ _ | assumption | refine balloc ?_ _)) hb1
    have hz1 : w.heap.size < w1.heap.size := by have := hb1.size; simp at this; omega
    obtain ⟨hc1, hf1⟩ := bcell hb1
    go_wp2_with fail
    refine (within1 8 c.L false _ _ H2.out (by simp) (by simp)).mono ?_
    rintro e w2 ⟨rfl, hb2⟩
    have B2 : Below w.heap.size w w2 := bstep (by repeat (first | exact Below.refl _ _ | assumption | refine balloc ?_ _)) hb2
    have hz2 : w.heap.size < w2.heap.size := by have := hb2.size; simp at this; omega
    obtain ⟨hc2, hf2⟩ := bcell hb2
    go_wp2
    go_ret
    exact ⟨rfl, B2⟩

set_option maxHeartbeats 1000000 in
theorem check3 (c : Cfg) (w : World) (H1 : Hd ((!(outB 64 c.W || outB 64 c.H)) = true)) (H2 : Hd ((!(outB 8 c.L)) = true)) (hcs : c.cs = true) (hL : (c.L == 1) = true) :
    Calls Try.prog 83 #[cv c] w fun e w' => e = .returned (.int .i64 10) ∧ Below w.heap.size w w' := by
    go_enter Try.func83, Try.ntmps83
    go_wp2_with fail
    refine (within2 64 c.W c.H true _ _ H1.out (by simp) (by simp) (by simp)).mono ?_
    rintro e w1 ⟨rfl, hb1⟩
    have B1 : Below w.heap.size w w1 := bstep (by repeat (first | exact Below.refl _ _ | assumption | refine balloc ?_ _)) hb1
    have hz1 : w.heap.size < w1.heap.size := by have := hb1.size; simp at this; omega
    obtain ⟨hc1, hf1⟩ := bcell hb1
    go_wp2_with fail
    refine (within1 8 c.L true _ _ H2.out (by simp) (by simp)).mono ?_
    rintro e w2 ⟨rfl, hb2⟩
    have B2 : Below w.heap.size w w2 := bstep (by repeat (first | exact Below.refl _ _ | assumption | refine balloc ?_ _)) hb2
    have hz2 : w.heap.size < w2.heap.size := by have := hb2.size; simp at this; omega
    obtain ⟨hc2, hf2⟩ := bcell hb2
    go_wp2
    go_ret
    exact ⟨rfl, B2⟩

set_option maxHeartbeats 1000000 in
theorem check4a (c : Cfg) (w : World) (H1 : Hd ((!(outB 64 c.W || outB 64 c.H)) = true)) (H2 : Hd ((!(outB 8 c.L)) = true)) (hcs : c.cs = false) (H3 : Hd ((!(outB 64 c.D || (outB 64 c.R || outB 64 c.I))) = false)) :
    Calls Try.prog 83 #[cv c] w fun e w' => e = .returned (.int .i64 10) ∧ Below w.heap.size w w' := by
    go_enter Try.func83, Try.ntmps83
    go_wp2_with fail
    refine (within2 64 c.W c.H true _ _ H1.out (by simp) (by simp) (by simp)).mono ?_
    rintro e w1 ⟨rfl, hb1⟩
    have B1 : Below w.heap.size w w1 := bstep (by repeat (first | exact Below.refl _ _ | assumption | refine balloc ?_ _)) hb1
    have hz1 : w.heap.size < w1.heap.size := by have := hb1.size; simp at this; omega
    obtain ⟨hc1, hf1⟩ := bcell hb1
    go_wp2_with fail
    refine (within1 8 c.L true _ _ H2.out (by simp) (by simp)).mono ?_
    rintro e w2 ⟨rfl, hb2⟩
    have B2 : Below w.heap.size w w2 := bstep (by repeat (first | exact Below.refl _ _ | assumption | refine balloc ?_ _)) hb2
    have hz2 : w.heap.size < w2.heap.size := by have := hb2.size; simp at this; omega
    obtain ⟨hc2, hf2⟩ := bcell hb2
    go_wp2_with fail
    refine (within3 64 c.D c.R c.I false _ _ H3.out (by simp) (by simp) (by simp) (by simp)).mono ?_
    rintro e w3 ⟨rfl, hb3⟩
    have B3 : Below w.heap.size w w3 := bstep (by repeat (first | exact Below.refl _ _ | assumption | refine balloc ?_ _)) hb3
    have hz3 : w.heap.size < w3.heap.size := by have := hb3.size; simp at this; omega
    obtain ⟨hc3, hf3⟩ := bcell hb3
    go_wp2
    go_ret
    exact ⟨rfl, B3⟩

set_option maxHeartbeats 1000000 in
theorem check5a (c : Cfg) (w : World) (H1 : Hd ((!(outB 64 c.W || outB 64 c.H)) = true)) (H2 : Hd ((!(outB 8 c.L)) = true)) (hcs : c.cs = false) (H3 : Hd ((!(outB 64 c.D || (outB 64 c.R || outB 64 c.I))) = true)) (H4 : Hd ((!(outB 16 c.B)) = false)) :
    Calls Try.prog 83 #[cv c] w fun e w' => e = .returned (.int .i64 10) ∧ Below w.heap.size w w' := by
    go_enter Try.func83, Try.ntmps83
    go_wp2_with fail
    refine (within2 64 c.W c.H true _ _ H1.out (by simp) (by simp) (by simp)).mono ?_
    rintro e w1 ⟨rfl, hb1⟩
    have B1 : Below w.heap.size w w1 := bstep (by repeat (first | exact Below.refl _ _ | assumption | refine balloc ?_ _)) hb1
    have hz1 : w.heap.size < w1.heap.size := by have := hb1.size; simp at this; omega
    obtain ⟨hc1, hf1⟩ := bcell hb1
    go_wp2_with fail
    refine (within1 8 c.L true _ _ H2.out (by simp) (by simp)).mono ?_
    rintro e w2 ⟨rfl, hb2⟩
    have B2 : Below w.heap.size w w2 := bstep (by repeat (first | exact Below.refl _ _ | assumption | refine balloc ?_ _)) hb2
    have hz2 : w.heap.size < w2.heap.size := by have := hb2.size; simp at this; omega
    obtain ⟨hc2, hf2⟩ := bcell hb2
    go_wp2_with fail
    refine (within3 64 c.D c.R c.I true _ _ H3.out (by simp) (by simp) (by simp) (by simp)).mono ?_
    rintro e w3 ⟨rfl, hb3⟩
    have B3 : Below w.heap.size w w3 := bstep (by repeat (first | exact Below.refl _ _ | assumption | refine balloc ?_ _)) hb3
    have hz3 : w.heap.size < w3.heap.size := by have := hb3.size; simp at this; omega
    obtain ⟨hc3, hf3⟩ := bcell hb3
    go_wp2_with fail
    refine (within1 16 c.B false _ _ H4.out (by simp) (by simp)).mono ?_
    rintro e w4 ⟨rfl, hb4⟩
    have B4 : Below w.heap.size w w4 := bstep (by repeat (first | exact Below.refl _ _ | assumption | refine balloc ?_ _)) hb4
    have hz4 : w.heap.size < w4.heap.size := by have := hb4.size; simp at this; omega
    obtain ⟨hc4, hf4⟩ := bcell hb4
    go_wp2
    go_ret
    exact ⟨rfl, B4⟩

set_option maxHeartbeats 1000000 in
theorem check6a (c : Cfg) (w : World) (H1 : Hd ((!(outB 64 c.W || outB 64 c.H)) = true)) (H2 : Hd ((!(outB 8 c.L)) = true)) (hcs : c.cs = false) (H3 : Hd ((!(outB 64 c.D || (outB 64 c.R || outB 64 c.I))) = true)) (H4 : Hd ((!(outB 16 c.B)) = true)) :
    Calls Try.prog 83 #[cv c] w fun e w' => e = .returned (.int .i64 0) ∧ Below w.heap.size w w' := by
    go_enter Try.func83, Try.ntmps83
    go_wp2_with fail
    refine (within2 64 c.W c.H true _ _ H1.out (by simp) (by simp) (by simp)).mono ?_
    rintro e w1 ⟨rfl, hb1⟩
    have B1 : Below w.heap.size w w1 := bstep (by repeat (first | exact Below.refl _ _ | assumption | refine balloc ?_ _)) hb1
    have hz1 : w.heap.size < w1.heap.size := by have := hb1.size; simp at this; omega
    obtain ⟨hc1, hf1⟩ := bcell hb1
    go_wp2_with fail
    refine (within1 8 c.L true _ _ H2.out (by simp) (by simp)).mono ?_
    rintro e w2 ⟨rfl, hb2⟩
    have B2 : Below w.heap.size w w2 := bstep (by repeat (first | exact Below.refl _ _ | assumption | refine balloc ?_ _)) hb2
    have hz2 : w.heap.size < w2.heap.size := by have := hb2.size; simp at this; omega
    obtain ⟨hc2, hf2⟩ := bcell hb2
    go_wp2_with fail
    refine (within3 64 c.D c.R c.I true _ _ H3.out (by simp) (by simp) (by simp) (by simp)).mono ?_
    rintro e w3 ⟨rfl, hb3⟩
    have B3 : Below w.heap.size w w3 := bstep (by repeat (first | exact Below.refl _ _ | assumption | refine balloc ?_ _)) hb3
    have hz3 : w.heap.size < w3.heap.size := by have := hb3.size; simp at this; omega
    obtain ⟨hc3, hf3⟩ := bcell hb3
    go_wp2_with fail
    refine (within1 16 c.B true _ _ H4.out (by simp) (by simp)).mono ?_
    rintro e w4 ⟨rfl, hb4⟩
    have B4 : Below w.heap.size w w4 := bstep (by repeat (first | exact Below.refl _ _ | assumption | refine balloc ?_ _)) hb4
    have hz4 : w.heap.size < w4.heap.size := by have := hb4.size; simp at this; omega
    obtain ⟨hc4, hf4⟩ := bcell hb4
    go_wp2
    go_ret
    exact ⟨rfl, B4⟩

set_option maxHeartbeats 1000000 in
theorem check4b (c : Cfg) (w : World) (H1 : Hd ((!(outB 64 c.W || outB 64 c.H)) = true)) (H2 : Hd ((!(outB 8 c.L)) = true)) (hcs : c.cs = true) (hL : (c.L == 1) = false) (H3 : Hd ((!(outB 64 c.D || (outB 64 c.R || outB 64 c.I))) = false)) :
    Calls Try.prog 83 #[cv c] w fun e w' => e = .returned (.int .i64 10) ∧ Below w.heap.size w w' := by
    go_enter Try.func83, Try.ntmps83
    go_wp2_with fail
    refine (within2 64 c.W c.H true _ _ H1.out (by simp) (by simp) (by simp)).mono ?_
    rintro e w1 ⟨rfl, hb1⟩
    have B1 : Below w.heap.size w w1 := bstep (by repeat (first | exact Below.refl _ _ | assumption | refine balloc ?_ _)) hb1
    have hz1 : w.heap.size < w1.heap.size := by have := hb1.size; simp at this; omega
    obtain ⟨hc1, hf1⟩ := bcell hb1
    go_wp2_with fail
    refine (within1 8 c.L true _ _ H2.out (by simp) (by simp)).mono ?_
    rintro e w2 ⟨rfl, hb2⟩
    have B2 : Below w.heap.size w w2 := bstep (by repeat (first | exact Below.refl _ _ | assumption | refine balloc ?_ _)) hb2
    have hz2 : w.heap.size < w2.heap.size := by have := hb2.size; simp at this; omega
    obtain ⟨hc2, hf2⟩ := bcell hb2
    go_wp2_with fail
    refine (within3 64 c.D c.R c.I false _ _ H3.out (by simp) (by simp) (by simp) (by simp)).mono ?_
    rintro e w3 ⟨rfl, hb3⟩
    have B3 : Below w.heap.size w w3 := bstep (by repeat (first | exact Below.refl _ _ | assumption | refine balloc ?_ _)) hb3
    have hz3 : w.heap.size < w3.heap.size := by have := hb3.size; simp at this; omega
    obtain ⟨hc3, hf3⟩ := bcell hb3
    go_wp2
    go_ret
    exact ⟨rfl, B3⟩

set_option maxHeartbeats 1000000 in
theorem check5b (c : Cfg) (w : World) (H1 : Hd ((!(outB 64 c.W || outB 64 c.H)) = true)) (H2 : Hd ((!(outB 8 c.L)) = true)) (hcs : c.cs = true) (hL : (c.L == 1) = false) (H3 : Hd ((!(outB 64 c.D || (outB 64 c.R || outB 64 c.I))) = true)) (H4 : Hd ((!(outB 16 c.B)) = false)) :
    Calls Try.prog 83 #[cv c] w fun e w' => e = .returned (.int .i64 10) ∧ Below w.heap.size w w' := by
    go_enter Try.func83, Try.ntmps83
    go_wp2_with fail
    refine (within2 64 c.W c.H true _ _ H1.out (by simp) (by simp) (by simp)).mono ?_
    rintro e w1 ⟨rfl, hb1⟩
    have B1 : Below w.heap.size w w1 := bstep (by repeat (first | exact Below.refl _ _ | assumption | refine balloc ?_ _)) hb1
    have hz1 : w.heap.size < w1.heap.size := by have := hb1.size; simp at this; omega
    obtain ⟨hc1, hf1⟩ := bcell hb1
    go_wp2_with fail
    refine (within1 8 c.L true _ _ H2.out (by simp) (by simp)).mono ?_
    rintro e w2 ⟨rfl, hb2⟩
    have B2 : Below w.heap.size w w2 := bstep (by repeat (first | exact Below.refl _ _ | assumption | refine balloc ?_ _)) hb2
    have hz2 : w.heap.size < w2.heap.size := by have := hb2.size; simp at this; omega
    obtain ⟨hc2, hf2⟩ := bcell hb2
    go_wp2_with fail
    refine (within3 64 c.D c.R c.I true _ _ H3.out (by simp) (by simp) (by simp) (by simp)).mono ?_
    rintro e w3 ⟨rfl, hb3⟩
    have B3 : Below w.heap.size w w3 := bstep (by repeat (first | exact Below.refl _ _ | assumption | refine balloc ?_ _)) hb3
    have hz3 : w.heap.size < w3.heap.size := by have := hb3.size; simp at this; omega
    obtain ⟨hc3, hf3⟩ := bcell hb3
    go_wp2_with fail
    refine (within1 16 c.B false _ _ H4.out (by simp) (by simp)).mono ?_
    rintro e w4 ⟨rfl, hb4⟩
    have B4 : Below w.heap.size w w4 := bstep (by repeat (first | exact Below.refl _ _ | assumption | refine balloc ?_ _)) hb4
    have hz4 : w.heap.size < w4.heap.size := by have := hb4.size; simp at this; omega
    obtain ⟨hc4, hf4⟩ := bcell hb4
    go_wp2
    go_ret
    exact ⟨rfl, B4⟩

set_option maxHeartbeats 1000000 in
theorem check6b (c : Cfg) (w : World) (H1 : Hd ((!(outB 64 c.W || outB 64 c.H)) = true)) (H2 : Hd ((!(outB 8 c.L)) = true)) (hcs : c.cs = true) (hL : (c.L == 1) = false) (H3 : Hd ((!(outB 64 c.D || (outB 64 c.R || outB 64 c.I))) = true)) (H4 : Hd ((!(outB 16 c.B)) = true)) :
    Calls Try.prog 83 #[cv c] w fun e w' => e = .returned (.int .i64 0) ∧ Below w.heap.size w w' := by
    go_enter Try.func83, Try.ntmps83
    go_wp2_with fail
    refine (within2 64 c.W c.H true _ _ H1.out (by simp) (by simp) (by simp)).mono ?_
    rintro e w1 ⟨rfl, hb1⟩
    have B1 : Below w.heap.size w w1 := bstep (by repeat (first | exact Below.refl _ _ | assumption | refine balloc ?_ _)) hb1
    have hz1 : w.heap.size < w1.heap.size := by have := hb1.size; simp at this; omega
    obtain ⟨hc1, hf1⟩ := bcell hb1
    go_wp2_with fail
    refine (within1 8 c.L true _ _ H2.out (by simp) (by simp)).mono ?_
    rintro e w2 ⟨rfl, hb2⟩
    have B2 : Below w.heap.size w w2 := bstep (by repeat (first | exact Below.refl _ _ | assumption | refine balloc ?_ _)) hb2
    have hz2 : w.heap.size < w2.heap.size := by have := hb2.size; simp at this; omega
    obtain ⟨hc2, hf2⟩ := bcell hb2
    go_wp2_with fail
    refine (within3 64 c.D c.R c.I true _ _ H3.out (by simp) (by simp) (by simp) (by simp)).mono ?_
    rintro e w3 ⟨rfl, hb3⟩
    have B3 : Below w.heap.size w w3 := bstep (by repeat (first | exact Below.refl _ _ | assumption | refine balloc ?_ _)) hb3
    have hz3 : w.heap.size < w3.heap.size := by have := hb3.size; simp at this; omega
    obtain ⟨hc3, hf3⟩ := bcell hb3
    go_wp2_with fail
    refine (within1 16 c.B true _ _ H4.out (by simp) (by simp)).mono ?_
    rintro e w4 ⟨rfl, hb4⟩
    have B4 : Below w.heap.size w w4 := bstep (by repeat (first | exact Below.refl _ _ | assumption | refine balloc ?_ _)) hb4
    have hz4 : w.heap.size < w4.heap.size := by have := hb4.size; simp at this; omega
    obtain ⟨hc4, hf4⟩ := bcell hb4
    go_wp2
    go_ret
    exact ⟨rfl, B4⟩

theorem check_any (c : Cfg) (w : World) :
    Calls Try.prog 83 #[cv c] w fun e w' => e = .returned (.int .i64 (chk c)) ∧ Below w.heap.size w w' := by
  unfold chk
  rcases h1 : (!(outB 64 c.W || outB 64 c.H)) with _ | _
  · exact check1 c w ⟨h1⟩
  · rcases h2 : (!(outB 8 c.L)) with _ | _
    · exact check2 c w ⟨h1⟩ ⟨h2⟩
    · rcases hcs : c.cs with _ | _
      · rcases h3 : (!(outB 64 c.D || (outB 64 c.R || outB 64 c.I))) with _ | _
        · exact check4a c w ⟨h1⟩ ⟨h2⟩ hcs ⟨h3⟩
        · rcases h4 : (!(outB 16 c.B)) with _ | _
          · exact check5a c w ⟨h1⟩ ⟨h2⟩ hcs ⟨h3⟩ ⟨h4⟩
          · exact check6a c w ⟨h1⟩ ⟨h2⟩ hcs ⟨h3⟩ ⟨h4⟩
      · rcases hL : (c.L == 1) with _ | _
        · rcases h3 : (!(outB 64 c.D || (outB 64 c.R || outB 64 c.I))) with _ | _
          · exact check4b c w ⟨h1⟩ ⟨h2⟩ hcs hL ⟨h3⟩
          · rcases h4 : (!(outB 16 c.B)) with _ | _
            · exact check5b c w ⟨h1⟩ ⟨h2⟩ hcs hL ⟨h3⟩ ⟨h4⟩
            · exact check6b c w ⟨h1⟩ ⟨h2⟩ hcs hL ⟨h3⟩ ⟨h4⟩
        · exact check3 c w ⟨h1⟩ ⟨h2⟩ hcs hL

end Go.Proofs.Ytnbogjiddildaaa
