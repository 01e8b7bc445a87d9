/- How many parts of each kind a node has; the walk of the law PickKinds. -/
import Derived.Test.YtnbogjiddildaaaQ5
namespace Go.Proofs.Ytnbogjiddildaaa
open Go.RowKit
set_option linter.unusedSimpArgs false
set_option linter.unusedVariables false

def cntK (c : Cfg) (q : Int) (j : Nat) : Nat → Nat
  | 0 => 0
  | n + 1 => cntK c q j n + if (ofP c n).1.n = q ∧ (ofP c n).1.k = (j : Int) then 1 else 0
def cK (L : Int) (j : Nat) : Nat → Nat
  | 0 => 0
  | m + 1 => cK L j m + if (kpl L m).1 = (j : Int) then 1 else 0
theorem cntK_le (c : Cfg) (q : Int) (j n : Nat) : cntK c q j n ≤ n := by
  induction n with
  | zero => simp [cntK]
  | succ n ih => rw [cntK]; split <;> omega
theorem cntK_is {c : Cfg} {q : Int} {Q E : Nat} (j : Nat) (hq : isB c q = true) (hQ : q = (Q : Int)) (hE : eachP c = (E : Int)) (n : Nat) (hn : (n : Int) ≤ countP c) : cntK c q j n = cK c.L j (min (n - Q * E) E) := by
  induction n with
  | zero => rw [show min (0 - Q * E) E = 0 from by omega]; rfl
  | succ n ih =>
    have ih := ih (by omega)
    have n0 : (0 : Int) ≤ (n : Int) := by omega
    have n1 : (n : Int) < countP c := by omega
    obtain ⟨h1, m0, m1, hj, hk⟩ := count_split n0 n1
    rw [cntK, ih, ofP_yes n0 n1]
    have hkn : (prt ((n : Int) / eachP c) (kpl c.L ((n : Int) % eachP c))).n = (n : Int) / eachP c := rfl
    have hkk : (prt ((n : Int) / eachP c) (kpl c.L ((n : Int) % eachP c))).k = (kpl c.L ((n : Int) % eachP c)).1 := rfl
    simp only [hkn, hkk]
    rw [hE] at hj m1 m0 ⊢
    have hqe : q * (E : Int) = ((Q * E : Nat) : Int) := by rw [hQ]; rfl
    by_cases ha : (n : Int) / (E : Int) = q
    · rw [ha] at hj ⊢
      rw [hqe] at hj
      obtain ⟨m, hm⟩ : ∃ m : Nat, (n : Int) % (E : Int) = (m : Int) := ⟨((n : Int) % (E : Int)).toNat, by omega⟩
      rw [hm] at hj m1 ⊢
      rw [show min (n - Q * E) E = m from by omega, show min (n + 1 - Q * E) E = m + 1 from by omega, cK]
      simp
    · rw [if_neg (fun h => ha h.1), Nat.add_zero]
      rcases Nat.lt_or_ge n (Q * E) with h2 | h2
      · rw [show min (n - Q * E) E = 0 from by omega, show min (n + 1 - Q * E) E = 0 from by omega]
      · rcases Nat.lt_or_ge n (Q * E + E) with h3 | h3
        · exfalso
          obtain ⟨j0, j1, j2, j3⟩ := count_join hq (show (0 : Int) ≤ ((n - Q * E : Nat) : Int) by omega) (by rw [hE]; omega)
          rw [hE, hqe, show ((Q * E : Nat) : Int) + ((n - Q * E : Nat) : Int) = (n : Int) from by omega] at j2
          exact ha j2
        · rw [show min (n - Q * E) E = E from by omega, show min (n + 1 - Q * E) E = E from by omega]
def sizeK (L : Int) (j : Nat) : Int := if j = 0 then 5 * L else if j = 1 then 5 * L else if j = 2 then 5 else if j = 3 then 1 else if j = 4 then 1 else 4
theorem cK_size {L : Int} (h1 : 1 ≤ L) (h2 : L ≤ 3) (j : Nat) (hj : j < 7) : (cK L j (10 * L.toNat + 15) : Int) = sizeK L j := by
  have hL : L = 1 ∨ L = 2 ∨ L = 3 := by omega
  have hj : j = 0 ∨ j = 1 ∨ j = 2 ∨ j = 3 ∨ j = 4 ∨ j = 5 ∨ j = 6 := by omega
  rcases hL with rfl | rfl | rfl <;> rcases hj with rfl | rfl | rfl | rfl | rfl | rfl | rfl <;> decide +kernel
theorem cntK_end {s : Cfg} (hs : Smc s) {q : Int} (hq : isB s q = true) (j : Nat) (hj : j < 7) : ((cntK s q j (countP s).toNat : Nat) : Int) = sizeK s.L j := by
  have hE := each_ok hs.ok
  have hL1 := hs.L1
  have hL2 := hs.L2
  have hcb := count_bd s
  have h0 := isB_iff.1 hq
  rw [cntK_is (Q := q.toNat) (E := 10 * s.L.toNat + 15) j hq (by omega) (by omega) (countP s).toNat (by omega)]
  have hle : q * eachP s + eachP s ≤ countP s := by
    unfold countP
    have := Int.mul_le_mul_of_nonneg_right (show q + 1 ≤ nodes s by omega) (show 0 ≤ eachP s by omega)
    rw [Int.add_mul] at this
    omega
  have e : q * eachP s = ((q.toNat * (10 * s.L.toNat + 15) : Nat) : Int) := by
    rw [Int.natCast_mul, show ((q.toNat : Nat) : Int) = q from by omega, show ((10 * s.L.toNat + 15 : Nat) : Int) = eachP s from by omega]
  rw [show min ((countP s).toNat - q.toNat * (10 * s.L.toNat + 15)) (10 * s.L.toNat + 15) = 10 * s.L.toNat + 15 from by omega]
  exact cK_size hL1 hL2 j hj
theorem rounds_one {c : Cfg} (h : 0 < countP c) (i : Nat) (hi : (i : Int) < countP c) : (roundsP c 0 0)[i]? = some (i : Int) := by
  unfold roundsP rndI
  simp only [Int.lt_irrefl, if_false, Int.zero_emod]
  have h1 := run_one (N := (countP c).toNat) (by omega) (countP c).toNat (Nat.le_refl _)
  have e : roundL (countP c).toNat (1 + (0 : Int).toNat) (0 : Int).toNat = List.range (countP c).toNat := h1.2.2
  rw [e, List.getElem?_map, List.getElem?_range (by omega)]
  rfl

theorem forIn7 {β : Type} (f : Nat → β → Sem (ForInStep β)) (b : β) :
    (forIn [:7] b f : Sem β) = (do match ← f 0 b with | .done c => pure c | .yield c0 => do match ← f 1 c0 with | .done c => pure c | .yield c1 => do match ← f 2 c1 with | .done c => pure c | .yield c2 => do match ← f 3 c2 with | .done c => pure c | .yield c3 => do match ← f 4 c3 with | .done c => pure c | .yield c4 => do match ← f 5 c4 with | .done c => pure c | .yield c5 => do match ← f 6 c5 with | .done c => pure c | .yield c6 => pure c6) := by
  simp [Std.Legacy.Range.forIn_eq_forIn_range', List.range']
  rfl
theorem eq67_same (v0 v1 v2 v3 v4 v5 v6 : Int) (w : World) : (Op.equalIn 10000 67 (.agg #[.int .i64 v0, .int .i64 v1, .int .i64 v2, .int .i64 v3, .int .i64 v4, .int .i64 v5, .int .i64 v6]) (.agg #[.int .i64 v0, .int .i64 v1, .int .i64 v2, .int .i64 v3, .int .i64 v4, .int .i64 v5, .int .i64 v6])).run Try.prog w = .ok true w := by
  rw [show (10000 : Nat) = 9998 + 1 + 1 from rfl]
  have h3 := fun (x y : Int) => run_equalIn_int (P := Try.prog) w 9998 3 .i64 .i64 x y Try.underlying3
  have hs : Sem.run Try.prog (sizeOf 3) w = .ok 1 w := by kernel_rfl
  have p0 : (part 3 #[Value.int IntKind.i64 v0, Value.int IntKind.i64 v1, Value.int IntKind.i64 v2, Value.int IntKind.i64 v3, Value.int IntKind.i64 v4, Value.int IntKind.i64 v5, Value.int IntKind.i64 v6] 0).run Try.prog w = .ok (.int .i64 v0) w := by kernel_rfl
  have p1 : (part 3 #[Value.int IntKind.i64 v0, Value.int IntKind.i64 v1, Value.int IntKind.i64 v2, Value.int IntKind.i64 v3, Value.int IntKind.i64 v4, Value.int IntKind.i64 v5, Value.int IntKind.i64 v6] 1).run Try.prog w = .ok (.int .i64 v1) w := by kernel_rfl
  have p2 : (part 3 #[Value.int IntKind.i64 v0, Value.int IntKind.i64 v1, Value.int IntKind.i64 v2, Value.int IntKind.i64 v3, Value.int IntKind.i64 v4, Value.int IntKind.i64 v5, Value.int IntKind.i64 v6] 2).run Try.prog w = .ok (.int .i64 v2) w := by kernel_rfl
  have p3 : (part 3 #[Value.int IntKind.i64 v0, Value.int IntKind.i64 v1, Value.int IntKind.i64 v2, Value.int IntKind.i64 v3, Value.int IntKind.i64 v4, Value.int IntKind.i64 v5, Value.int IntKind.i64 v6] 3).run Try.prog w = .ok (.int .i64 v3) w := by kernel_rfl
  have p4 : (part 3 #[Value.int IntKind.i64 v0, Value.int IntKind.i64 v1, Value.int IntKind.i64 v2, Value.int IntKind.i64 v3, Value.int IntKind.i64 v4, Value.int IntKind.i64 v5, Value.int IntKind.i64 v6] 4).run Try.prog w = .ok (.int .i64 v4) w := by kernel_rfl
  have p5 : (part 3 #[Value.int IntKind.i64 v0, Value.int IntKind.i64 v1, Value.int IntKind.i64 v2, Value.int IntKind.i64 v3, Value.int IntKind.i64 v4, Value.int IntKind.i64 v5, Value.int IntKind.i64 v6] 5).run Try.prog w = .ok (.int .i64 v5) w := by kernel_rfl
  have p6 : (part 3 #[Value.int IntKind.i64 v0, Value.int IntKind.i64 v1, Value.int IntKind.i64 v2, Value.int IntKind.i64 v3, Value.int IntKind.i64 v4, Value.int IntKind.i64 v5, Value.int IntKind.i64 v6] 6).run Try.prog w = .ok (.int .i64 v6) w := by kernel_rfl
  rw [Op.equalIn]
  simp only [Sem.run_bind, run_underlying Try.underlying67, Result.andThen_ok, hs]
  rw [forIn7]
  simp only [Sem.run_bind, Sem.run_pure, Result.andThen_ok, Nat.zero_mul, Nat.one_mul, Nat.mul_one, p0, p1, p2, p3, p4, p5, p6, h3, beq_self_eq_true, Bool.not_true, Bool.false_eq_true, if_false]
theorem eql67_same (v0 v1 v2 v3 v4 v5 v6 : Int) (w : World) : (binOp .eql 67 (.agg #[.int .i64 v0, .int .i64 v1, .int .i64 v2, .int .i64 v3, .int .i64 v4, .int .i64 v5, .int .i64 v6]) (.agg #[.int .i64 v0, .int .i64 v1, .int .i64 v2, .int .i64 v3, .int .i64 v4, .int .i64 v5, .int .i64 v6])).run Try.prog w = .ok (.bool true) w := by
  rw [run_eql_struct, eq67_same]; rfl

structure RelKinds (s : Cfg) (q : Int) (N gm : Nat) (w : World) (n : Value) (W : World) (k : Nat) : Prop where
  kn : k ≤ N
  hi : n = .int .i64 (k : Int)
  many : W.rowIs gm 67 7 (fun j => .int .i64 ((cntK s q j k : Nat) : Int))
  s : W.cell? ⟨w.heap.size, 0, none⟩ = some (.int .i64 s.W) ∧ W.cell? ⟨w.heap.size, 1, none⟩ = some (.int .i64 s.H) ∧ W.cell? ⟨w.heap.size, 2, none⟩ = some (.int .i64 s.L) ∧ W.cell? ⟨w.heap.size, 3, none⟩ = some (.int .i64 s.D) ∧ W.cell? ⟨w.heap.size, 4, none⟩ = some (.int .i64 s.R) ∧ W.cell? ⟨w.heap.size, 5, none⟩ = some (.int .i64 s.I) ∧ W.cell? ⟨w.heap.size, 6, none⟩ = some (.int .i64 s.B) ∧ W.cell? ⟨w.heap.size, 7, none⟩ = some (.bool s.ws) ∧ W.cell? ⟨w.heap.size, 8, none⟩ = some (.bool s.cs) ∧ w.heap.size < W.heap.size ∧ Below w.heap.size w W

theorem keepG1 {c : Cfg} {g b i : Nat} {u : Value} {w W : World} (h : W.cell? ⟨g, 0, none⟩ = some (.int .i64 c.W) ∧ W.cell? ⟨g, 1, none⟩ = some (.int .i64 c.H) ∧ W.cell? ⟨g, 2, none⟩ = some (.int .i64 c.L) ∧ W.cell? ⟨g, 3, none⟩ = some (.int .i64 c.D) ∧ W.cell? ⟨g, 4, none⟩ = some (.int .i64 c.R) ∧ W.cell? ⟨g, 5, none⟩ = some (.int .i64 c.I) ∧ W.cell? ⟨g, 6, none⟩ = some (.int .i64 c.B) ∧ W.cell? ⟨g, 7, none⟩ = some (.bool c.ws) ∧ W.cell? ⟨g, 8, none⟩ = some (.bool c.cs) ∧ g < W.heap.size ∧ Below w.heap.size w W) (hb : g < b ∧ w.heap.size ≤ b) : (W.setCell ⟨b, i, none⟩ u).cell? ⟨g, 0, none⟩ = some (.int .i64 c.W) ∧ (W.setCell ⟨b, i, none⟩ u).cell? ⟨g, 1, none⟩ = some (.int .i64 c.H) ∧ (W.setCell ⟨b, i, none⟩ u).cell? ⟨g, 2, none⟩ = some (.int .i64 c.L) ∧ (W.setCell ⟨b, i, none⟩ u).cell? ⟨g, 3, none⟩ = some (.int .i64 c.D) ∧ (W.setCell ⟨b, i, none⟩ u).cell? ⟨g, 4, none⟩ = some (.int .i64 c.R) ∧ (W.setCell ⟨b, i, none⟩ u).cell? ⟨g, 5, none⟩ = some (.int .i64 c.I) ∧ (W.setCell ⟨b, i, none⟩ u).cell? ⟨g, 6, none⟩ = some (.int .i64 c.B) ∧ (W.setCell ⟨b, i, none⟩ u).cell? ⟨g, 7, none⟩ = some (.bool c.ws) ∧ (W.setCell ⟨b, i, none⟩ u).cell? ⟨g, 8, none⟩ = some (.bool c.cs) ∧ g < (W.setCell ⟨b, i, none⟩ u).heap.size ∧ Below w.heap.size w (W.setCell ⟨b, i, none⟩ u) := by
  obtain ⟨h0, h1, h2, h3, h4, h5, h6, h7, h8, hl, hB⟩ := h
  have hcell : ∀ o v, W.cell? ⟨g, o, none⟩ = some v → (W.setCell ⟨b, i, none⟩ u).cell? ⟨g, o, none⟩ = some v := fun o v hv => (World.cell?_setCell_other W ⟨b, i, none⟩ ⟨g, o, none⟩ u (fun e => by injection e with e1; omega)).trans hv
  exact ⟨hcell _ _ h0, hcell _ _ h1, hcell _ _ h2, hcell _ _ h3, hcell _ _ h4, hcell _ _ h5, hcell _ _ h6, hcell _ _ h7, hcell _ _ h8, by simpa [World.setCell] using hl, bset hB hb.2 _⟩

set_option maxHeartbeats 1000000 in
set_option maxRecDepth 20000 in
theorem law13_go (c : Cfg) (a : Int) (w : World) :
    Calls Try.prog 13 #[cv c, .int .i64 a] w fun e w' => e = .returned (.bool true) ∧ Below w.heap.size w w' := by
  go_enter Try.func13, Try.ntmps13
  go_wp2_with fail
  refine (f47_any _).mono ?_
  rintro e w1 ⟨rfl, hb1⟩
  have S1 := keepS hb1 (s0 c w)
  have F1 := keepF hb1 (by simp) (fz0 c w)
  clear hb1
  go_wp2_with fail
  refine (f31_sm c _).mono ?_
  rintro e w2 ⟨s, hsm, rfl, hb2⟩
  have S2 := keepS hb2 S1
  have F2 := keepF hb2 S1.2.2.2.2.2.2.2.2.2.1 F1
  clear hb2 S1 F1
  go_wp2_with fail
  have S3 := storesS (s := s) (Nat.le_refl _) S2
  clear S2 F2
  generalize (((((((((w2.setCell ⟨w.heap.size, 0, none⟩ (.int .i64 s.W)).setCell ⟨w.heap.size, 1, none⟩ (.int .i64 s.H)).setCell ⟨w.heap.size, 2, none⟩ (.int .i64 s.L)).setCell ⟨w.heap.size, 3, none⟩ (.int .i64 s.D)).setCell ⟨w.heap.size, 4, none⟩ (.int .i64 s.R)).setCell ⟨w.heap.size, 5, none⟩ (.int .i64 s.I)).setCell ⟨w.heap.size, 6, none⟩ (.int .i64 s.B)).setCell ⟨w.heap.size, 7, none⟩ (.bool s.ws)).setCell ⟨w.heap.size, 8, none⟩ (.bool s.cs)) = w3 at S3 ⊢
  obtain ⟨q, HQ⟩ : ∃ z, Hd (nodeP s a = z) := ⟨_, ⟨rfl⟩⟩
  have HBq : Hd (isB s q = true) := ⟨by have h := nodeP_is hsm.ok a; rw [HQ.out] at h; exact h⟩
  have hcb := count_bd s
  have hsN : 0 < countP s := by
    have h1 := wh_bd (chk_okc hsm.ok)
    have h2 := each_ok hsm.ok
    have h3 := hsm.L1
    unfold countP
    rw [nodes_ok hsm.ok]
    exact Int.mul_pos (by omega) (by omega)
  have HEND : Hd (∀ j, j < 7 → ((cntK s q j (countP s).toNat : Nat) : Int) = sizeK s.L j) := ⟨fun j hj => cntK_end hsm HBq.out j hj⟩
  obtain ⟨N, hN⟩ : ∃ N : Nat, countP s = (N : Int) := ⟨(countP s).toNat, by omega⟩
  rw [hN, Int.toNat_natCast] at HEND
  have HONE : Hd (∀ i : Nat, i < N → (roundsP s 0 0)[i]? = some (i : Int)) := ⟨fun i hi => rounds_one hsN i (by rw [hN]; omega)⟩
  have HOF : Hd (∀ n : Nat, n < N → ∃ kd : Nat, ∃ xn xp xl : Int, ofP s n = (⟨kd, xn, xp, xl⟩, true) ∧ kd < 7) := ⟨fun n hn => by
    have h1 := ofP_yes (c := s) (n := n) (by omega) (by rw [hN]; omega)
    obtain ⟨_, m0, m1, _, hk⟩ := count_split (c := s) (n := n) (by omega) (by rw [hN]; omega)
    have h2 := kpl_kind (chk_okc hk).L1 m0 (by rw [← each_ok hk]; exact m1)
    refine ⟨(kpl s.L ((n : Int) % eachP s)).1.toNat, (n : Int) / eachP s, (kpl s.L ((n : Int) % eachP s)).2.1, (kpl s.L ((n : Int) % eachP s)).2.2, ?_, by omega⟩
    rw [h1, show (((kpl s.L ((n : Int) % eachP s)).1.toNat : Nat) : Int) = (kpl s.L ((n : Int) % eachP s)).1 from by omega]
    rfl⟩
  obtain ⟨xs, HXS⟩ : ∃ z, Hd (roundsP s 0 0 = z) := ⟨_, ⟨rfl⟩⟩
  rw [HXS.out] at HONE
  have HXL : Hd (xs.length = N) := ⟨by have h1 := rounds_len s 0 0; rw [HXS.out, hN] at h1; omega⟩
  have HN := Hd.mk hN
  have hN2 : N ≤ 389120 := by omega
  have hN1 : 1 ≤ N := by omega
  have l1 := hsm.L1
  have l2 := hsm.L2
  clear hN hcb hsN
  go_wp2_with fail
  refine (f32_is s a q hsm.ok HQ.out _).mono ?_
  rintro e w4 ⟨rfl, hb4⟩
  have S4 := keepS hb4 S3
  clear hb4 S3
  have S5 := allocS (.cells #[.int .i64 0, .int .i64 0, .int .i64 0, .int .i64 0, .int .i64 0, .int .i64 0, .int .i64 0] 67) S4
  have M5 : Hd ((w4.alloc (.cells #[.int .i64 0, .int .i64 0, .int .i64 0, .int .i64 0, .int .i64 0, .int .i64 0, .int .i64 0] 67)).rowIs w4.heap.size 67 7 (fun j => .int .i64 ((cntK s q j 0 : Nat) : Int))) := ⟨World.rowIs_alloc w4 _ 67 _ (by
    intro i hi
    have hi : i < 7 := hi
    have h : i = 0 ∨ i = 1 ∨ i = 2 ∨ i = 3 ∨ i = 4 ∨ i = 5 ∨ i = 6 := by omega
    rcases h with rfl | rfl | rfl | rfl | rfl | rfl | rfl <;> rfl)⟩
  have hgm : w.heap.size < w4.heap.size := S4.2.2.2.2.2.2.2.2.2.1
  obtain ⟨gm, hg⟩ : ∃ g, w4.heap.size = g := ⟨_, rfl⟩
  rw [hg] at M5 hgm
  clear S4
  go_wp2_with fail
  clear hg
  go_loopw [6] (fun n W => ∃ k : Nat, RelKinds s q N gm w n W k) (fun n _ => N - (intOf n).toNat)
  case atStart => exact ⟨0, by omega, rfl, M5.out, S5⟩
  case round =>
    obtain ⟨k, hk, rfl, hmany, hS⟩ := hrel
    have HM := Hd.mk hmany
    clear hmany M5 S5
    by_cases hlt : k < N
    · obtain ⟨kd, xn, xp, xl, hof, hkd⟩ := HOF.out k hlt
      have HO := Hd.mk hof
      clear hof
      have hcl := cntK_le s q kd k
      obtain ⟨cn, HCN⟩ : ∃ z, Hd (cntK s q kd k = z) := ⟨_, ⟨rfl⟩⟩
      rw [HCN.out] at hcl
      go_wp2_with fail
      refine (f54_is s (N : Int) HN.out _).mono ?_
      rintro e w5 ⟨rfl, hb5⟩
      have S5 := keepS hb5 hS
      have HM5 := Hd.mk (rowIs_below HM.out hb5)
      clear hb5 hS HM
      go_wp2_with fail
      refine (f48_is s k ⟨kd, xn, xp, xl⟩ true HO.out _).mono ?_
      rintro e w6 ⟨rfl, hb6⟩
      have S6a := Hd.mk (keepS hb6 S5)
      have S6 := allocS (.cells #[.int .i64 (kd : Int), .int .i64 xn, .int .i64 xp, .int .i64 xl] 51) (keepS hb6 S5)
      have HM6 := Hd.mk ((rowIs_below HM5.out hb6).alloc (.cells #[.int .i64 (kd : Int), .int .i64 xn, .int .i64 xp, .int .i64 xl] 51))
      have HM6a := Hd.mk (rowIs_below HM5.out hb6)
      clear hb6 S5 HM5
      have hcell : (w6.alloc (.cells #[.int .i64 (kd : Int), .int .i64 xn, .int .i64 xp, .int .i64 xl] 51)).cell? ⟨gm, kd, none⟩ = some (.int .i64 (cn : Int)) := by have h := HM6.out.cell hkd; rw [h, HCN.out]
      have hfz := HM6.out.frozen kd
      have hcell' : w6.cell? ⟨gm, kd, none⟩ = some (.int .i64 (cn : Int)) := by have h := HM6a.out.cell hkd; rw [h, HCN.out]
      have hfz' := HM6a.out.frozen kd
      have hgz := HM6a.out.lt
      have i0 : (0 : Int) ≤ (kd : Int) := by omega
      have i1 : (kd : Int) < 7 := by omega
      have i2 : ¬ (6 : Int) < (kd : Int) := by omega
      by_cases hq : xn = q
      · have HST : Hd (∀ j, cntK s q j (k + 1) = if j = kd then cn + 1 else cntK s q j k) := ⟨fun j => by
          rw [cntK, HO.out]
          simp only [hq, true_and]
          by_cases e : j = kd
          · subst e; rw [if_pos rfl, if_pos rfl, HCN.out]
          · rw [if_neg (by omega), if_neg e]; rfl⟩
        have hqb : (xn == q) = true := by rw [hq]; exact beq_self_eq_true _
        have HQQ := Hd.mk hq
        have HMS := Hd.mk ((HM6a.out.set kd (.int .i64 ((cn : Int) + 1))).alloc (.cells #[.int .i64 (kd : Int), .int .i64 xn, .int .i64 xp, .int .i64 xl] 51))
        clear hq
        go_wp2
        go_roundw
        case rel => exact ⟨k + 1, by omega, by go_num, HMS.out.congr fun i _ => by rw [HST.out i]; split <;> rfl, allocS _ (keepG1 S6a.out (by omega))⟩
        case measure => simp [intOf]; omega
      · have HST : Hd (∀ j, cntK s q j (k + 1) = cntK s q j k) := ⟨fun j => by
          rw [cntK, HO.out]
          simp only
          rw [if_neg (fun h => hq h.1)]; rfl⟩
        have hqb : (xn == q) = false := by rw [beq_eq_false_iff_ne]; exact hq
        have HQQ := Hd.mk hq
        clear hq
        go_wp2
        go_roundw
        case rel => exact ⟨k + 1, by omega, by go_num, HM6.out.congr fun i _ => by rw [HST.out i], S6⟩
        case measure => simp [intOf]; omega
    · have hkN : k = N := by omega
      subst hkN
      go_wp2_with fail
      refine (f54_is s (k : Int) HN.out _).mono ?_
      rintro e w5 ⟨rfl, hb5⟩
      have S5 := keepS hb5 hS
      have HM5 := Hd.mk (rowIs_below HM.out hb5)
      clear hb5 hS HM
      go_wp2_with fail
      refine (f62_nm s 0 0 xs HXS.out (by omega) (by omega) (by omega) (by omega) _).mono ?_
      rintro e w6 ⟨A, cA, rfl, hrA, hb6⟩
      have S6 := keepS hb6 S5
      have HM6 := Hd.mk (rowIs_below HM5.out hb6)
      have RA := Hd.mk hrA
      clear hb6 S5 HM5 hrA
      rw [HXL.out]
      go_wp2_with fail
      go_loop [10] (fun i => ∃ j : Nat, j ≤ k ∧ i = .int .i64 (j : Int)) (fun i => k - (intOf i).toNat)
      case atStart => exact ⟨0, by omega, rfl⟩
      case round =>
        obtain ⟨j, hj, rfl⟩ := hrel
        by_cases hjl : j < k
        · obtain ⟨ga, oa, rfl, hga, hca⟩ := RA.out (by have := HXL.out; omega)
          have hx := hca j (j : Int) (HONE.out j hjl)
          have i2 : (j : Int) < (k : Int) := by omega
          clear hca hga
          go_wp2
          go_round
          case rel => exact ⟨j + 1, by omega, by go_num⟩
          case measure => simp [intOf]; omega
        · have hjk : j = k := by omega
          subst hjk
          have m0 : w6.cell? ⟨gm, 0, none⟩ = some (.int .i64 (5 * s.L)) := by rw [HM6.out.cell (by omega : 0 < 7), HEND.out 0 (by omega)]; rfl
          have m1 : w6.cell? ⟨gm, 1, none⟩ = some (.int .i64 (5 * s.L)) := by rw [HM6.out.cell (by omega : 1 < 7), HEND.out 1 (by omega)]; rfl
          have m2 : w6.cell? ⟨gm, 2, none⟩ = some (.int .i64 5) := by rw [HM6.out.cell (by omega : 2 < 7), HEND.out 2 (by omega)]; rfl
          have m3 : w6.cell? ⟨gm, 3, none⟩ = some (.int .i64 1) := by rw [HM6.out.cell (by omega : 3 < 7), HEND.out 3 (by omega)]; rfl
          have m4 : w6.cell? ⟨gm, 4, none⟩ = some (.int .i64 1) := by rw [HM6.out.cell (by omega : 4 < 7), HEND.out 4 (by omega)]; rfl
          have m5 : w6.cell? ⟨gm, 5, none⟩ = some (.int .i64 4) := by rw [HM6.out.cell (by omega : 5 < 7), HEND.out 5 (by omega)]; rfl
          have m6 : w6.cell? ⟨gm, 6, none⟩ = some (.int .i64 4) := by rw [HM6.out.cell (by omega : 6 < 7), HEND.out 6 (by omega)]; rfl
          have q1 := fun W => eql67_same (5 * s.L) (5 * s.L) 5 1 1 4 4 W
          have q2 := fun W => eq67_same (5 * s.L) (5 * s.L) 5 1 1 4 4 W
          go_wp2_with fail
          refine (f54_is s (j : Int) HN.out _).mono ?_
          rintro e w7 ⟨rfl, hb7⟩
          have S7 := keepS hb7 S6
          go_wp2
          go_ret
          exact ⟨ret_bool (by simp), sB S7⟩

theorem law13_calls (c : Cfg) (a : Int) (_ : -9223372036854775808 ≤ a ∧ a ≤ 9223372036854775807) (w : World) :
    Calls Try.prog 13 #[cv c, .int .i64 a] w fun e w' => e = .returned (.bool true) ∧ Below w.heap.size w w' := law13_go c a w

end Go.Proofs.Ytnbogjiddildaaa
