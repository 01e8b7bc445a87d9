/- Contracts of grid.Far and the reference's Far, Node, Small; of the laws' own small configs. -/
import Derived.Test.YtnbogjiddildaaaE
namespace Go.Proofs.Ytnbogjiddildaaa
open Go.RowKit
set_option linter.unusedSimpArgs false
set_option linter.unusedVariables false

theorem u64w (n : Int) : IntKind.u64.wrap n = n % 18446744073709551616 := by
  simp [IntKind.wrap, IntKind.bits, IntKind.signed]
theorem nodeP_w (n m : Int) (h : 1 ≤ m) (h2 : m ≤ 4096) : wrap64 ((IntKind.u64.wrap n).tmod m) = (n % 18446744073709551616) % m := by
  rw [u64w]
  have h0 : 0 ≤ n % 18446744073709551616 := by omega
  rw [Int.tmod_eq_emod_of_nonneg h0]
  have a := Int.emod_nonneg (n % 18446744073709551616) (show m ≠ 0 by omega)
  have b := Int.emod_lt_of_pos (n % 18446744073709551616) (show 0 < m by omega)
  exact IntWalk.wrap64_in _ ⟨by omega, by omega⟩
theorem smI_w (m x : Int) (h : 1 ≤ m) (h2 : m ≤ 4096) : wrap64 (1 + wrap64 ((IntKind.u64.wrap x).tmod m)) = smI m x := by
  rw [nodeP_w x m h h2]
  unfold smI
  have a := Int.emod_nonneg (x % 18446744073709551616) (show m ≠ 0 by omega)
  have b := Int.emod_lt_of_pos (x % 18446744073709551616) (show 0 < m by omega)
  exact IntWalk.wrap64_in _ ⟨by omega, by omega⟩

theorem mx_abs (x y : Int) : max (x - y) (y - x) = absI (x - y) := by unfold absI; omega

set_option maxHeartbeats 1000000 in
set_option maxRecDepth 20000 in
theorem f33_yes (c : Cfg) (a b : Int) (ha : isB c a = true) (hb : isB c b = true) (w : World) :
    Calls Try.prog 33 #[cv c, .int .i64 a, .int .i64 b] w fun e w' => e = .returned (.int .i64 (farP c a b)) ∧ Below w.heap.size w w' := by
  have hia := inn ha
  have x0a := hia.x0
  have x2a := hia.x2
  have y0a := hia.y0
  have y2a := hia.y2
  clear hia
  have hib := inn hb
  have x0b := hib.x0
  have x2b := hib.x2
  have y0b := hib.y0
  have y2b := hib.y2
  clear hib
  have HF := Hd.mk (show farP c a b = absI (a % c.W - b % c.W) + absI (a / c.W - b / c.W) by unfold farP; rw [if_pos ⟨ha, hb⟩])
  have HPa := Hd.mk (place_yes ha)
  have HPb := Hd.mk (place_yes hb)
  clear ha hb
  go_enter Try.func33, Try.ntmps33
  go_wp2_with fail
  refine (f35_is c a _ _ _ HPa.out _).mono ?_
  rintro e w1 ⟨rfl, hb1⟩
  have S1 := keepS hb1 (s0 c w)
  clear hb1
  go_wp2_with fail
  refine (f35_is c b _ _ _ HPb.out _).mono ?_
  rintro e w2 ⟨rfl, hb2⟩
  have S2 := keepS hb2 S1
  clear hb2
  clear S1
  go_wp2
  all_goals
    go_ret
    exact ⟨ret_int (by rw [HF.out]; unfold absI; omega), sB S2⟩

set_option maxHeartbeats 1000000 in
set_option maxRecDepth 20000 in
theorem f33_na (c : Cfg) (a b : Int) (ha : isB c a = false) (w : World) :
    Calls Try.prog 33 #[cv c, .int .i64 a, .int .i64 b] w fun e w' => e = .returned (.int .i64 (farP c a b)) ∧ Below w.heap.size w w' := by
  have HF : Hd (farP c a b = -1) := ⟨by unfold farP; rw [if_neg (by rw [ha]; simp)]⟩
  have HPa := Hd.mk (place_no ha)
  clear ha
  go_enter Try.func33, Try.ntmps33
  go_wp2_with fail
  refine (f35_is c a _ _ _ HPa.out _).mono ?_
  rintro e w1 ⟨rfl, hb1⟩
  have S1 := keepS hb1 (s0 c w)
  clear hb1
  go_wp2_with fail
  refine (f35_any c b _).mono ?_
  rintro e w2 ⟨rfl, hb2⟩
  have S2 := keepS hb2 S1
  clear hb2
  clear S1
  go_wp2
  go_ret
  exact ⟨ret_int HF.out.symm, sB S2⟩

set_option maxHeartbeats 1000000 in
set_option maxRecDepth 20000 in
theorem f33_nb (c : Cfg) (a b : Int) (ha : isB c a = true) (hb : isB c b = false) (w : World) :
    Calls Try.prog 33 #[cv c, .int .i64 a, .int .i64 b] w fun e w' => e = .returned (.int .i64 (farP c a b)) ∧ Below w.heap.size w w' := by
  have HF : Hd (farP c a b = -1) := ⟨by unfold farP; rw [if_neg (by rw [hb]; simp)]⟩
  have HPa := Hd.mk (place_yes ha)
  have HPb := Hd.mk (place_no hb)
  clear ha hb
  go_enter Try.func33, Try.ntmps33
  go_wp2_with fail
  refine (f35_is c a _ _ _ HPa.out _).mono ?_
  rintro e w1 ⟨rfl, hb1⟩
  have S1 := keepS hb1 (s0 c w)
  clear hb1
  go_wp2_with fail
  refine (f35_is c b _ _ _ HPb.out _).mono ?_
  rintro e w2 ⟨rfl, hb2⟩
  have S2 := keepS hb2 S1
  clear hb2
  clear S1
  go_wp2
  go_ret
  exact ⟨ret_int HF.out.symm, sB S2⟩

set_option maxHeartbeats 1000000 in
set_option maxRecDepth 20000 in
theorem f45_yes (c : Cfg) (a b : Int) (ha : isB c a = true) (hb : isB c b = true) (w : World) :
    Calls Try.prog 45 #[cv c, .int .i64 a, .int .i64 b] w fun e w' => e = .returned (.int .i64 (farP c a b)) ∧ Below w.heap.size w w' := by
  have hia := inn ha
  have x0a := hia.x0
  have x2a := hia.x2
  have y0a := hia.y0
  have y2a := hia.y2
  clear hia
  have hib := inn hb
  have x0b := hib.x0
  have x2b := hib.x2
  have y0b := hib.y0
  have y2b := hib.y2
  clear hib
  have hk := chk_okc (isB_chk ha)
  have k1 := hk.W1
  have k2 := hk.W2
  have a0 := (inn ha).n0
  have a1 := (inn ha).n1
  have b0 := (inn hb).n0
  have b1 := (inn hb).n1
  clear hk
  have HF := Hd.mk (show farP c a b = absI (a % c.W - b % c.W) + absI (a / c.W - b / c.W) by unfold farP; rw [if_pos ⟨ha, hb⟩])
  have HA := Hd.mk ha
  have HB := Hd.mk hb
  clear ha hb
  go_enter Try.func45, Try.ntmps45
  go_wp2_with fail
  refine (f38_is c a true HA.out _).mono ?_
  rintro e w1 ⟨rfl, hb1⟩
  have S1 := keepS hb1 (s0 c w)
  clear hb1
  go_wp2_with fail
  refine (f38_is c b true HB.out _).mono ?_
  rintro e w2 ⟨rfl, hb2⟩
  have S2 := keepS hb2 S1
  clear hb2
  clear S1
  go_wp2_with fail
  have HS3 := Hd.mk S2
  clear S2
  go_region_held3 (fun W => W.cell? ⟨w.heap.size, 0, none⟩ = some (.int .i64 c.W) ∧ W.cell? ⟨w.heap.size, 1, none⟩ = some (.int .i64 c.H) ∧ W.cell? ⟨w.heap.size, 2, none⟩ = some (.int .i64 c.L) ∧ W.cell? ⟨w.heap.size, 3, none⟩ = some (.int .i64 c.D) ∧ W.cell? ⟨w.heap.size, 4, none⟩ = some (.int .i64 c.R) ∧ W.cell? ⟨w.heap.size, 5, none⟩ = some (.int .i64 c.I) ∧ W.cell? ⟨w.heap.size, 6, none⟩ = some (.int .i64 c.B) ∧ W.cell? ⟨w.heap.size, 7, none⟩ = some (.bool c.ws) ∧ W.cell? ⟨w.heap.size, 8, none⟩ = some (.bool c.cs) ∧ w.heap.size < W.heap.size ∧ Below w.heap.size w W) (first | exact dS HS3.out | exact keepS (by assumption) (by assumption))
    (first | (go_at_call 39; refine (f39_any c _ (by assumption) (by assumption) k1 k2 _).mono ?_; rintro e wq ⟨rfl, hbq⟩) | (go_at_call 40; refine (f40_any c _ (by assumption) (by assumption) k1 k2 _).mono ?_; rintro e wq ⟨rfl, hbq⟩))
  rename_i S3
  go_wp2
  all_goals
    go_ret
    exact ⟨ret_int (by rw [HF.out]; unfold absI; omega), sB S3⟩

set_option maxHeartbeats 1000000 in
set_option maxRecDepth 20000 in
theorem f45_na (c : Cfg) (a b : Int) (ha : isB c a = false) (w : World) :
    Calls Try.prog 45 #[cv c, .int .i64 a, .int .i64 b] w fun e w' => e = .returned (.int .i64 (farP c a b)) ∧ Below w.heap.size w w' := by
  have HF : Hd (farP c a b = -1) := ⟨by unfold farP; rw [if_neg (by rw [ha]; simp)]⟩
  have HA := Hd.mk ha
  clear ha
  go_enter Try.func45, Try.ntmps45
  go_wp2_with fail
  refine (f38_is c a false HA.out _).mono ?_
  rintro e w1 ⟨rfl, hb1⟩
  have S1 := keepS hb1 (s0 c w)
  clear hb1
  go_wp2
  go_ret
  exact ⟨ret_int HF.out.symm, sB S1⟩

set_option maxHeartbeats 1000000 in
set_option maxRecDepth 20000 in
theorem f45_nb (c : Cfg) (a b : Int) (ha : isB c a = true) (hb : isB c b = false) (w : World) :
    Calls Try.prog 45 #[cv c, .int .i64 a, .int .i64 b] w fun e w' => e = .returned (.int .i64 (farP c a b)) ∧ Below w.heap.size w w' := by
  have HF : Hd (farP c a b = -1) := ⟨by unfold farP; rw [if_neg (by rw [hb]; simp)]⟩
  have HA := Hd.mk ha
  have HB := Hd.mk hb
  clear ha hb
  go_enter Try.func45, Try.ntmps45
  go_wp2_with fail
  refine (f38_is c a true HA.out _).mono ?_
  rintro e w1 ⟨rfl, hb1⟩
  have S1 := keepS hb1 (s0 c w)
  clear hb1
  go_wp2_with fail
  refine (f38_is c b false HB.out _).mono ?_
  rintro e w2 ⟨rfl, hb2⟩
  have S2 := keepS hb2 S1
  clear hb2
  clear S1
  go_wp2
  go_ret
  exact ⟨ret_int HF.out.symm, sB S2⟩

theorem f33_any (c : Cfg) (a b : Int) (w : World) :
    Calls Try.prog 33 #[cv c, .int .i64 a, .int .i64 b] w fun e w' => e = .returned (.int .i64 (farP c a b)) ∧ Below w.heap.size w w' := by
  rcases ha : isB c a with _ | _
  · exact f33_na c a b ha w
  · rcases hb : isB c b with _ | _
    · exact f33_nb c a b ha hb w
    · exact f33_yes c a b ha hb w

theorem f45_any (c : Cfg) (a b : Int) (w : World) :
    Calls Try.prog 45 #[cv c, .int .i64 a, .int .i64 b] w fun e w' => e = .returned (.int .i64 (farP c a b)) ∧ Below w.heap.size w w' := by
  rcases ha : isB c a with _ | _
  · exact f45_na c a b ha w
  · rcases hb : isB c b with _ | _
    · exact f45_nb c a b ha hb w
    · exact f45_yes c a b ha hb w

set_option maxHeartbeats 1000000 in
set_option maxRecDepth 20000 in
theorem f32_any (c : Cfg) (n : Int) (h : chk c = 0) (w : World) :
    Calls Try.prog 32 #[cv c, .int .i64 n] w fun e w' => e = .returned (.int .i64 (nodeP c n)) ∧ Below w.heap.size w w' := by
  have HN := Hd.mk (nodes_ok h)
  have hb1 : 1 ≤ nodes c := by rw [nodes_ok h]; exact (wh_bd (chk_okc h)).1
  have hb2 := (nodes_bd c).2
  have HC := Hd.mk h
  clear h
  go_enter Try.func32, Try.ntmps32
  go_wp2_with fail
  refine (f81_any c _).mono ?_
  rintro e w1 ⟨rfl, hb1⟩
  have S1 := keepS hb1 (s0 c w)
  clear hb1
  go_wp2
  go_ret
  exact ⟨ret_int (nodeP_w n (nodes c) hb1 hb2), sB S1⟩

theorem f32_is (c : Cfg) (n r : Int) (h : chk c = 0) (hr : nodeP c n = r) (w : World) :
    Calls Try.prog 32 #[cv c, .int .i64 n] w fun e w' => e = .returned (.int .i64 r) ∧ Below w.heap.size w w' := by
  subst hr; exact f32_any c n h w

set_option maxHeartbeats 1000000 in
set_option maxRecDepth 20000 in
theorem f31_a (c : Cfg) (hcs : c.cs = false) (w : World) :
    Calls Try.prog 31 #[cv c] w fun e w' => e = .returned (cv (small c)) ∧ Below w.heap.size w w' := by
  have HE : Hd (cv (small c) = .agg #[.int .i64 (wrap64 (1 + wrap64 ((IntKind.u64.wrap c.W).tmod 4))), .int .i64 (wrap64 (1 + wrap64 ((IntKind.u64.wrap c.H).tmod 4))), .int .i64 (wrap64 (1 + wrap64 ((IntKind.u64.wrap c.L).tmod 3))), .int .i64 (wrap64 (1 + wrap64 ((IntKind.u64.wrap c.D).tmod 3))), .int .i64 (wrap64 (1 + wrap64 ((IntKind.u64.wrap c.R).tmod 3))), .int .i64 (wrap64 (1 + wrap64 ((IntKind.u64.wrap c.I).tmod 3))), .int .i64 (wrap64 (1 + wrap64 ((IntKind.u64.wrap c.B).tmod 4))), .bool c.ws, .bool false]) := ⟨by
    have e4 := fun x => smI_w 4 x (by omega) (by omega)
    have e3 := fun x => smI_w 3 x (by omega) (by omega)
    simp only [e4, e3] at *
    simp [cv, small, smL, hcs]⟩
  go_enter Try.func31, Try.ntmps31
  go_wp2
  exact bodyPost_ret (v := .agg #[.int .i64 (wrap64 (1 + wrap64 ((IntKind.u64.wrap c.W).tmod 4))), .int .i64 (wrap64 (1 + wrap64 ((IntKind.u64.wrap c.H).tmod 4))), .int .i64 (wrap64 (1 + wrap64 ((IntKind.u64.wrap c.L).tmod 3))), .int .i64 (wrap64 (1 + wrap64 ((IntKind.u64.wrap c.D).tmod 3))), .int .i64 (wrap64 (1 + wrap64 ((IntKind.u64.wrap c.R).tmod 3))), .int .i64 (wrap64 (1 + wrap64 ((IntKind.u64.wrap c.I).tmod 3))), .int .i64 (wrap64 (1 + wrap64 ((IntKind.u64.wrap c.B).tmod 4))), .bool c.ws, .bool false]) (by simp [results, Try.results31, go_sem]) rfl ⟨by rw [HE.out], by repeat (first | exact Below.refl _ _ | assumption | refine balloc ?_ _ | (refine bset ?_ (by simp; done) _) | (refine bset ?_ (by simp; omega) _))⟩

set_option maxHeartbeats 1000000 in
set_option maxRecDepth 20000 in
theorem f31_b (c : Cfg) (hcs : c.cs = true) (hL : wrap64 (1 + wrap64 ((IntKind.u64.wrap c.L).tmod 3)) < 2) (w : World) :
    Calls Try.prog 31 #[cv c] w fun e w' => e = .returned (cv (small c)) ∧ Below w.heap.size w w' := by
  have HE : Hd (cv (small c) = .agg #[.int .i64 (wrap64 (1 + wrap64 ((IntKind.u64.wrap c.W).tmod 4))), .int .i64 (wrap64 (1 + wrap64 ((IntKind.u64.wrap c.H).tmod 4))), .int .i64 (2), .int .i64 (wrap64 (1 + wrap64 ((IntKind.u64.wrap c.D).tmod 3))), .int .i64 (wrap64 (1 + wrap64 ((IntKind.u64.wrap c.R).tmod 3))), .int .i64 (wrap64 (1 + wrap64 ((IntKind.u64.wrap c.I).tmod 3))), .int .i64 (wrap64 (1 + wrap64 ((IntKind.u64.wrap c.B).tmod 4))), .bool c.ws, .bool true]) := ⟨by
    have e4 := fun x => smI_w 4 x (by omega) (by omega)
    have e3 := fun x => smI_w 3 x (by omega) (by omega)
    simp only [e4, e3] at *
    simp [cv, small, smL, hcs, hL]⟩
  go_enter Try.func31, Try.ntmps31
  go_wp2
  exact bodyPost_ret (v := .agg #[.int .i64 (wrap64 (1 + wrap64 ((IntKind.u64.wrap c.W).tmod 4))), .int .i64 (wrap64 (1 + wrap64 ((IntKind.u64.wrap c.H).tmod 4))), .int .i64 (2), .int .i64 (wrap64 (1 + wrap64 ((IntKind.u64.wrap c.D).tmod 3))), .int .i64 (wrap64 (1 + wrap64 ((IntKind.u64.wrap c.R).tmod 3))), .int .i64 (wrap64 (1 + wrap64 ((IntKind.u64.wrap c.I).tmod 3))), .int .i64 (wrap64 (1 + wrap64 ((IntKind.u64.wrap c.B).tmod 4))), .bool c.ws, .bool true]) (by simp [results, Try.results31, go_sem]) rfl ⟨by rw [HE.out], by repeat (first | exact Below.refl _ _ | assumption | refine balloc ?_ _ | (refine bset ?_ (by simp; done) _) | (refine bset ?_ (by simp; omega) _))⟩

set_option maxHeartbeats 1000000 in
set_option maxRecDepth 20000 in
theorem f31_c (c : Cfg) (hcs : c.cs = true) (hL : ¬ wrap64 (1 + wrap64 ((IntKind.u64.wrap c.L).tmod 3)) < 2) (w : World) :
    Calls Try.prog 31 #[cv c] w fun e w' => e = .returned (cv (small c)) ∧ Below w.heap.size w w' := by
  have HE : Hd (cv (small c) = .agg #[.int .i64 (wrap64 (1 + wrap64 ((IntKind.u64.wrap c.W).tmod 4))), .int .i64 (wrap64 (1 + wrap64 ((IntKind.u64.wrap c.H).tmod 4))), .int .i64 (wrap64 (1 + wrap64 ((IntKind.u64.wrap c.L).tmod 3))), .int .i64 (wrap64 (1 + wrap64 ((IntKind.u64.wrap c.D).tmod 3))), .int .i64 (wrap64 (1 + wrap64 ((IntKind.u64.wrap c.R).tmod 3))), .int .i64 (wrap64 (1 + wrap64 ((IntKind.u64.wrap c.I).tmod 3))), .int .i64 (wrap64 (1 + wrap64 ((IntKind.u64.wrap c.B).tmod 4))), .bool c.ws, .bool true]) := ⟨by
    have e4 := fun x => smI_w 4 x (by omega) (by omega)
    have e3 := fun x => smI_w 3 x (by omega) (by omega)
    simp only [e4, e3] at *
    simp [cv, small, smL, hcs, hL]⟩
  go_enter Try.func31, Try.ntmps31
  go_wp2
  exact bodyPost_ret (v := .agg #[.int .i64 (wrap64 (1 + wrap64 ((IntKind.u64.wrap c.W).tmod 4))), .int .i64 (wrap64 (1 + wrap64 ((IntKind.u64.wrap c.H).tmod 4))), .int .i64 (wrap64 (1 + wrap64 ((IntKind.u64.wrap c.L).tmod 3))), .int .i64 (wrap64 (1 + wrap64 ((IntKind.u64.wrap c.D).tmod 3))), .int .i64 (wrap64 (1 + wrap64 ((IntKind.u64.wrap c.R).tmod 3))), .int .i64 (wrap64 (1 + wrap64 ((IntKind.u64.wrap c.I).tmod 3))), .int .i64 (wrap64 (1 + wrap64 ((IntKind.u64.wrap c.B).tmod 4))), .bool c.ws, .bool true]) (by simp [results, Try.results31, go_sem]) rfl ⟨by rw [HE.out], by repeat (first | exact Below.refl _ _ | assumption | refine balloc ?_ _ | (refine bset ?_ (by simp; done) _) | (refine bset ?_ (by simp; omega) _))⟩

theorem f31_any (c : Cfg) (w : World) :
    Calls Try.prog 31 #[cv c] w fun e w' => e = .returned (cv (small c)) ∧ Below w.heap.size w w' := by
  rcases hcs : c.cs with _ | _
  · exact f31_a c hcs w
  · by_cases hL : wrap64 (1 + wrap64 ((IntKind.u64.wrap c.L).tmod 3)) < 2
    · exact f31_b c hcs hL w
    · exact f31_c c hcs hL w

/-- A small config behind the call: all that is known of it, under a name of its own. -/
theorem f31_is (c : Cfg) (w : World) :
    Calls Try.prog 31 #[cv c] w fun e w' => ∃ s : Cfg, Smc s ∧ s = small c ∧ e = .returned (cv s) ∧ Below w.heap.size w w' :=
  (f31_any c w).mono fun _ _ ⟨h1, h2⟩ => ⟨small c, small_is c, rfl, h1, h2⟩

def some4 : Cfg := { W := 4, H := 4, L := 1, D := 1, R := 1, I := 1, B := 1, ws := false, cs := false }
def some4w : Cfg := { W := 4, H := 4, L := 1, D := 1, R := 1, I := 1, B := 1, ws := true, cs := false }
def some2 : Cfg := { W := 2, H := 2, L := 1, D := 1, R := 1, I := 1, B := 1, ws := false, cs := false }

set_option maxHeartbeats 1000000 in
set_option maxRecDepth 20000 in
theorem f79_any  (w : World) :
    Calls Try.prog 79 #[] w fun e w' => e = .returned (cv some4) ∧ Below w.heap.size w w' := by
  go_enter Try.func79, Try.ntmps79
  go_wp2
  exact bodyPost_ret (v := .agg #[.int .i64 4, .int .i64 4, .int .i64 1, .int .i64 1, .int .i64 1, .int .i64 1, .int .i64 1, .bool false, .bool false]) (by simp [results, Try.results79, go_sem]) rfl ⟨rfl, by repeat (first | exact Below.refl _ _ | assumption | refine balloc ?_ _ | (refine bset ?_ (by simp; done) _) | (refine bset ?_ (by simp; omega) _))⟩

set_option maxHeartbeats 1000000 in
set_option maxRecDepth 20000 in
theorem f84_any  (w : World) :
    Calls Try.prog 84 #[] w fun e w' => e = .returned (cv some2) ∧ Below w.heap.size w w' := by
  go_enter Try.func84, Try.ntmps84
  go_wp2
  exact bodyPost_ret (v := .agg #[.int .i64 2, .int .i64 2, .int .i64 1, .int .i64 1, .int .i64 1, .int .i64 1, .int .i64 1, .bool false, .bool false]) (by simp [results, Try.results84, go_sem]) rfl ⟨rfl, by repeat (first | exact Below.refl _ _ | assumption | refine balloc ?_ _ | (refine bset ?_ (by simp; done) _) | (refine bset ?_ (by simp; omega) _))⟩

set_option maxHeartbeats 1000000 in
set_option maxRecDepth 20000 in
theorem f90_any  (w : World) :
    Calls Try.prog 90 #[] w fun e w' => e = .returned (cv some4w) ∧ Below w.heap.size w w' := by
  go_enter Try.func90, Try.ntmps90
  go_wp2
  exact bodyPost_ret (v := .agg #[.int .i64 4, .int .i64 4, .int .i64 1, .int .i64 1, .int .i64 1, .int .i64 1, .int .i64 1, .bool true, .bool false]) (by simp [results, Try.results90, go_sem]) rfl ⟨rfl, by repeat (first | exact Below.refl _ _ | assumption | refine balloc ?_ _ | (refine bset ?_ (by simp; done) _) | (refine bset ?_ (by simp; omega) _))⟩

def turnP (p : Int) : Int := if p < 1 ∨ 4 < p then 0 else p - backP p

set_option maxHeartbeats 1000000 in
set_option maxRecDepth 20000 in
theorem f46_any (p : Int) (w : World) :
    Calls Try.prog 46 #[.int .i64 p] w fun e w' => e = .returned (.int .i64 (turnP p)) ∧ Below w.heap.size w w' := by
  have HB : Hd (turnP p = if p < 1 ∨ 4 < p then 0 else p - backP p) := ⟨rfl⟩
  by_cases h : p < 1
  · have h1 := Hd.mk h
    go_enter Try.func46, Try.ntmps46
    go_wp2
    go_ret
    exact ⟨ret_int (by rw [HB.out, if_pos (Or.inl h1.out)]), Below.refl _ _⟩
  · by_cases h4 : 4 < p
    · have h1 := Hd.mk h4
      go_enter Try.func46, Try.ntmps46
      go_wp2
      go_ret
      exact ⟨ret_int (by rw [HB.out, if_pos (Or.inr h1.out)]), Below.refl _ _⟩
    · have hp : p = 1 ∨ p = 2 ∨ p = 3 ∨ p = 4 := by omega
      clear h h4 HB
      rcases hp with rfl | rfl | rfl | rfl
      all_goals
        go_enter Try.func46, Try.ntmps46
        go_wp2_with fail
        refine (f43_any _ _).mono ?_
        rintro e w1 ⟨rfl, hb1⟩
        simp only [backP]
        go_wp2
        go_ret
        exact ⟨rfl, hb1⟩

end Go.Proofs.Ytnbogjiddildaaa
