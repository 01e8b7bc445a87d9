/- Contracts of turn.Options, turn.Choose and their references; the example of layer 6's laws. -/
import Derived.Test.YtnbogjiddildaaaT0
import Derived.Test.YtnbogjiddildaaaJ
import Derived.Test.YtnbogjiddildaaaL0
namespace Go.Proofs.Ytnbogjiddildaaa
open Go.RowKit
set_option linter.unusedSimpArgs false
set_option linter.unusedVariables false

set_option maxHeartbeats 1000000 in
set_option maxRecDepth 20000 in
theorem f86_any (x y m l : Int) (w : World) :
    Calls Try.prog 86 #[.int .i64 x, .int .i64 y, .int .i64 m, .int .i64 l] w fun e w' => e = .returned (.int .i64 (sgn x y m l)) ∧ w = w' := by
  have i0 : ∀ W : World, (Instr.index 32 (.agg #[.int .i64 l, .int .i64 0, .int .i64 m]) (.int .i64 0)).run Try.prog W = .ok (.int .i64 l) W := fun _ => by kernel_rfl
  have i1 : ∀ W : World, (Instr.index 32 (.agg #[.int .i64 l, .int .i64 0, .int .i64 m]) (.int .i64 1)).run Try.prog W = .ok (.int .i64 0) W := fun _ => by kernel_rfl
  have i2 : ∀ W : World, (Instr.index 32 (.agg #[.int .i64 l, .int .i64 0, .int .i64 m]) (.int .i64 2)).run Try.prog W = .ok (.int .i64 m) W := fun _ => by kernel_rfl
  have HS : Hd (sgn x y m l = if y < x then l else if y = x then 0 else m) := ⟨rfl⟩
  rcases (by omega : y < x ∨ y = x ∨ x < y) with h | h | h
  · have H := Hd.mk h
    go_enter Try.func86, Try.ntmps86
    go_wp2
    go_ret
    exact ⟨ret_int (by rw [HS.out, if_pos H.out]), rfl⟩
  · subst h
    go_enter Try.func86, Try.ntmps86
    go_wp2
    go_ret
    exact ⟨ret_int (by rw [HS.out, if_neg (by omega)]; simp), rfl⟩
  · have H := Hd.mk h
    go_enter Try.func86, Try.ntmps86
    go_wp2
    go_ret
    exact ⟨ret_int (by have := H.out; rw [HS.out, if_neg (by omega), if_neg (by omega)]), rfl⟩

theorem f86_is (x y m l r : Int) (h : sgn x y m l = r) (w : World) :
    Calls Try.prog 86 #[.int .i64 x, .int .i64 y, .int .i64 m, .int .i64 l] w fun e w' => e = .returned (.int .i64 r) ∧ w = w' := by
  subst h; exact f86_any x y m l w

theorem row_lit1 (W : World) (base : Nat) (x : Int) (hb : base ≤ W.heap.size) : Row (W.alloc (.cells #[.int .i64 x] 3)) base (.slice (some ⟨W.heap.size, 0, none⟩) 1 1) [x] :=
  World.ownsRow_lit W #[.int .i64 x] 1 hb (by unfold maxLen; omega) (by simp)
theorem row_lit2 (W : World) (base : Nat) (x y : Int) (hb : base ≤ W.heap.size) : Row (W.alloc (.cells #[.int .i64 x, .int .i64 y] 3)) base (.slice (some ⟨W.heap.size, 0, none⟩) 2 2) [x, y] :=
  World.ownsRow_lit W #[.int .i64 x, .int .i64 y] 2 hb (by unfold maxLen; omega) (by simp)

theorem f39_nm (c : Cfg) (n r : Int) (h : n % c.W = r) (n0 : 0 ≤ n) (n1 : n ≤ 4096) (k1 : 1 ≤ c.W) (k2 : c.W ≤ 64) (w : World) :
    Calls Try.prog 39 #[cv c, .int .i64 n] w fun e w' => e = .returned (.int .i64 r) ∧ Below w.heap.size w w' := by
  subst h; exact f39_any c n n0 n1 k1 k2 w
theorem f40_nm (c : Cfg) (n r : Int) (h : n / c.W = r) (n0 : 0 ≤ n) (n1 : n ≤ 4096) (k1 : 1 ≤ c.W) (k2 : c.W ≤ 64) (w : World) :
    Calls Try.prog 40 #[cv c, .int .i64 n] w fun e w' => e = .returned (.int .i64 r) ∧ Below w.heap.size w w' := by
  subst h; exact f40_any c n n0 n1 k1 k2 w

set_option maxHeartbeats 1000000 in
set_option maxRecDepth 20000 in
theorem f60_na (c : Cfg) (a b : Int) (h : isB c a = false) (w : World) :
    Calls Try.prog 60 #[cv c, .int .i64 a, .int .i64 b] w fun e w' => ∃ v, e = .returned v ∧ Row w' w.heap.size v (optP c a b) ∧ Below w.heap.size w w' := by
  have HO := Hd.mk (opt_no (c := c) (a := a) (b := b) (by rw [h]; simp))
  have HP := Hd.mk (place_no h)
  clear h
  go_enter Try.func60, Try.ntmps60
  go_wp2_with fail
  refine (f35_is c a _ _ _ HP.out _).mono ?_
  rintro e w1 ⟨rfl, hb1⟩
  have S1 := keepS hb1 (s0 c w)
  clear hb1
  go_wp2_with fail
  refine (f35_any c b _).mono ?_
  rintro e w2 ⟨rfl, hb2⟩
  have S2 := keepS hb2 S1
  clear hb2
  clear S1
  go_wp2
  go_ret
  exact ⟨_, rfl, by rw [HO.out]; exact Row.nil_ _ _, sB S2⟩

set_option maxHeartbeats 1000000 in
set_option maxRecDepth 20000 in
theorem f60_nb (c : Cfg) (a b : Int) (ha : isB c a = true) (h : isB c b = false) (w : World) :
    Calls Try.prog 60 #[cv c, .int .i64 a, .int .i64 b] w fun e w' => ∃ v, e = .returned v ∧ Row w' w.heap.size v (optP c a b) ∧ Below w.heap.size w w' := by
  have HO := Hd.mk (opt_no (c := c) (a := a) (b := b) (by rw [h]; simp))
  have HP := Hd.mk (place_yes ha)
  have HQ := Hd.mk (place_no h)
  clear h ha
  go_enter Try.func60, Try.ntmps60
  go_wp2_with fail
  refine (f35_is c a _ _ _ HP.out _).mono ?_
  rintro e w1 ⟨rfl, hb1⟩
  have S1 := keepS hb1 (s0 c w)
  clear hb1
  go_wp2_with fail
  refine (f35_is c b _ _ _ HQ.out _).mono ?_
  rintro e w2 ⟨rfl, hb2⟩
  have S2 := keepS hb2 S1
  clear hb2
  clear S1
  go_wp2
  go_ret
  exact ⟨_, rfl, by rw [HO.out]; exact Row.nil_ _ _, sB S2⟩

set_option maxHeartbeats 1000000 in
set_option maxRecDepth 20000 in
theorem f60_w (c : Cfg) (a b : Int) (ha : isB c a = true) (hb : isB c b = true) (hx : b % c.W < a % c.W) (w : World) :
    Calls Try.prog 60 #[cv c, .int .i64 a, .int .i64 b] w fun e w' => ∃ v, e = .returned v ∧ Row w' w.heap.size v (optP c a b) ∧ Below w.heap.size w w' := by
  have HX : Hd (optP c a b = [2]) := ⟨by unfold optP; rw [if_pos ⟨ha, hb⟩]; rw [if_pos hx]⟩
  have HPa := Hd.mk (place_yes ha)
  have HPb := Hd.mk (place_yes hb)
  have HL : Hd (sgn (a % c.W) (b % c.W) 1 2 = 2) := ⟨by unfold sgn; rw [if_pos hx]⟩
  obtain ⟨t, HT⟩ : ∃ t, Hd (sgn (a / c.W) (b / c.W) 3 4 = t) := ⟨_, ⟨rfl⟩⟩
  clear ha hb hx
  go_enter Try.func60, Try.ntmps60
  go_wp2_with fail
  refine (f35_is c a _ _ _ HPa.out _).mono ?_
  rintro e w1 ⟨rfl, hb1⟩
  have S1 := keepS hb1 (s0 c w)
  clear hb1
  go_wp2_with fail
  refine (f35_is c b _ _ _ HPb.out _).mono ?_
  rintro e w2 ⟨rfl, hb2⟩
  have S2 := keepS hb2 S1
  clear hb2
  clear S1
  go_wp2_with fail
  refine (f86_is _ _ _ _ _ HL.out _).mono ?_
  rintro e w3 ⟨rfl, rfl⟩
  go_wp2_with fail
  refine (f86_is _ _ _ _ _ HT.out _).mono ?_
  rintro e w3 ⟨rfl, rfl⟩
  have hz := (sB S2).size
  go_wp2
  all_goals
    go_ret
    exact ⟨_, rfl, by rw [HX.out]; exact row_lit1 w2 _ _ hz, balloc (sB S2) _⟩

set_option maxHeartbeats 1000000 in
set_option maxRecDepth 20000 in
theorem f60_s (c : Cfg) (a b : Int) (ha : isB c a = true) (hb : isB c b = true) (hx : b % c.W = a % c.W) (w : World) :
    Calls Try.prog 60 #[cv c, .int .i64 a, .int .i64 b] w fun e w' => ∃ v, e = .returned v ∧ Row w' w.heap.size v (optP c a b) ∧ Below w.heap.size w w' := by
  have HX : Hd (optP c a b = [sgn (a / c.W) (b / c.W) 3 4]) := ⟨by unfold optP; rw [if_pos ⟨ha, hb⟩]; rw [if_neg (by omega), if_pos hx]⟩
  have HPa := Hd.mk (place_yes ha)
  have HPb := Hd.mk (place_yes hb)
  have HL : Hd (sgn (a % c.W) (b % c.W) 1 2 = 0) := ⟨by unfold sgn; rw [if_neg (by omega), if_pos hx]⟩
  obtain ⟨t, HT⟩ : ∃ t, Hd (sgn (a / c.W) (b / c.W) 3 4 = t) := ⟨_, ⟨rfl⟩⟩
  clear ha hb hx
  go_enter Try.func60, Try.ntmps60
  go_wp2_with fail
  refine (f35_is c a _ _ _ HPa.out _).mono ?_
  rintro e w1 ⟨rfl, hb1⟩
  have S1 := keepS hb1 (s0 c w)
  clear hb1
  go_wp2_with fail
  refine (f35_is c b _ _ _ HPb.out _).mono ?_
  rintro e w2 ⟨rfl, hb2⟩
  have S2 := keepS hb2 S1
  clear hb2
  clear S1
  go_wp2_with fail
  refine (f86_is _ _ _ _ _ HL.out _).mono ?_
  rintro e w3 ⟨rfl, rfl⟩
  go_wp2_with fail
  refine (f86_is _ _ _ _ _ HT.out _).mono ?_
  rintro e w3 ⟨rfl, rfl⟩
  have hz := (sB S2).size
  go_wp2
  all_goals
    go_ret
    exact ⟨_, rfl, by rw [HX.out, HT.out]; exact row_lit1 w2 _ _ hz, balloc (sB S2) _⟩

set_option maxHeartbeats 1000000 in
set_option maxRecDepth 20000 in
theorem f60_x (c : Cfg) (a b : Int) (ha : isB c a = true) (hb : isB c b = true) (hx : a % c.W < b % c.W) (hw : c.ws = false) (w : World) :
    Calls Try.prog 60 #[cv c, .int .i64 a, .int .i64 b] w fun e w' => ∃ v, e = .returned v ∧ Row w' w.heap.size v (optP c a b) ∧ Below w.heap.size w w' := by
  have HX : Hd (optP c a b = [1]) := ⟨by unfold optP; rw [if_pos ⟨ha, hb⟩]; rw [if_neg (by omega), if_neg (by omega), if_neg (by rw [hw]; simp)]⟩
  have HPa := Hd.mk (place_yes ha)
  have HPb := Hd.mk (place_yes hb)
  have HL : Hd (sgn (a % c.W) (b % c.W) 1 2 = 1) := ⟨by unfold sgn; rw [if_neg (by omega), if_neg (by omega)]⟩
  obtain ⟨t, HT⟩ : ∃ t, Hd (sgn (a / c.W) (b / c.W) 3 4 = t) := ⟨_, ⟨rfl⟩⟩
  have Hw := Hd.mk hw
  clear hw
  clear ha hb hx
  go_enter Try.func60, Try.ntmps60
  go_wp2_with fail
  refine (f35_is c a _ _ _ HPa.out _).mono ?_
  rintro e w1 ⟨rfl, hb1⟩
  have S1 := keepS hb1 (s0 c w)
  clear hb1
  go_wp2_with fail
  refine (f35_is c b _ _ _ HPb.out _).mono ?_
  rintro e w2 ⟨rfl, hb2⟩
  have S2 := keepS hb2 S1
  clear hb2
  clear S1
  go_wp2_with fail
  refine (f86_is _ _ _ _ _ HL.out _).mono ?_
  rintro e w3 ⟨rfl, rfl⟩
  go_wp2_with fail
  refine (f86_is _ _ _ _ _ HT.out _).mono ?_
  rintro e w3 ⟨rfl, rfl⟩
  have hz := (sB S2).size
  have hw' := Hw.out
  go_wp2
  all_goals
    go_ret
    exact ⟨_, rfl, by rw [HX.out]; exact row_lit1 w2 _ _ hz, balloc (sB S2) _⟩

set_option maxHeartbeats 1000000 in
set_option maxRecDepth 20000 in
theorem f60_y (c : Cfg) (a b : Int) (ha : isB c a = true) (hb : isB c b = true) (hx : a % c.W < b % c.W) (hw : c.ws = true) (hy : b / c.W = a / c.W) (w : World) :
    Calls Try.prog 60 #[cv c, .int .i64 a, .int .i64 b] w fun e w' => ∃ v, e = .returned v ∧ Row w' w.heap.size v (optP c a b) ∧ Below w.heap.size w w' := by
  have HX : Hd (optP c a b = [1]) := ⟨by unfold optP; rw [if_pos ⟨ha, hb⟩]; rw [if_neg (by omega), if_neg (by omega), if_neg (by simp [hy])]⟩
  have HPa := Hd.mk (place_yes ha)
  have HPb := Hd.mk (place_yes hb)
  have HL : Hd (sgn (a % c.W) (b % c.W) 1 2 = 1) := ⟨by unfold sgn; rw [if_neg (by omega), if_neg (by omega)]⟩
  obtain ⟨t, HT⟩ : ∃ t, Hd (sgn (a / c.W) (b / c.W) 3 4 = t) := ⟨_, ⟨rfl⟩⟩
  have ht : (t == 0) = true := by rw [← HT.out]; unfold sgn; rw [if_neg (by omega), if_pos hy]; rfl
  have Hw := Hd.mk hw
  clear hw
  clear ha hb hx hy
  go_enter Try.func60, Try.ntmps60
  go_wp2_with fail
  refine (f35_is c a _ _ _ HPa.out _).mono ?_
  rintro e w1 ⟨rfl, hb1⟩
  have S1 := keepS hb1 (s0 c w)
  clear hb1
  go_wp2_with fail
  refine (f35_is c b _ _ _ HPb.out _).mono ?_
  rintro e w2 ⟨rfl, hb2⟩
  have S2 := keepS hb2 S1
  clear hb2
  clear S1
  go_wp2_with fail
  refine (f86_is _ _ _ _ _ HL.out _).mono ?_
  rintro e w3 ⟨rfl, rfl⟩
  go_wp2_with fail
  refine (f86_is _ _ _ _ _ HT.out _).mono ?_
  rintro e w3 ⟨rfl, rfl⟩
  have hz := (sB S2).size
  have hw' := Hw.out
  go_wp2
  all_goals
    go_ret
    exact ⟨_, rfl, by rw [HX.out]; exact row_lit1 w2 _ _ hz, balloc (sB S2) _⟩

set_option maxHeartbeats 1000000 in
set_option maxRecDepth 20000 in
theorem f60_z (c : Cfg) (a b : Int) (ha : isB c a = true) (hb : isB c b = true) (hx : a % c.W < b % c.W) (hw : c.ws = true) (hy : b / c.W ≠ a / c.W) (w : World) :
    Calls Try.prog 60 #[cv c, .int .i64 a, .int .i64 b] w fun e w' => ∃ v, e = .returned v ∧ Row w' w.heap.size v (optP c a b) ∧ Below w.heap.size w w' := by
  have HX : Hd (optP c a b = [1, sgn (a / c.W) (b / c.W) 3 4]) := ⟨by unfold optP; rw [if_pos ⟨ha, hb⟩]; rw [if_neg (by omega), if_neg (by omega), if_pos ⟨hw, hy⟩]⟩
  have HPa := Hd.mk (place_yes ha)
  have HPb := Hd.mk (place_yes hb)
  have HL : Hd (sgn (a % c.W) (b % c.W) 1 2 = 1) := ⟨by unfold sgn; rw [if_neg (by omega), if_neg (by omega)]⟩
  obtain ⟨t, HT⟩ : ∃ t, Hd (sgn (a / c.W) (b / c.W) 3 4 = t) := ⟨_, ⟨rfl⟩⟩
  have ht : (t == 0) = false := by
    rw [beq_eq_false_iff_ne, ← HT.out]; unfold sgn
    split
    · omega
    · omega
  have Hw := Hd.mk hw
  clear hw
  clear ha hb hx hy
  go_enter Try.func60, Try.ntmps60
  go_wp2_with fail
  refine (f35_is c a _ _ _ HPa.out _).mono ?_
  rintro e w1 ⟨rfl, hb1⟩
  have S1 := keepS hb1 (s0 c w)
  clear hb1
  go_wp2_with fail
  refine (f35_is c b _ _ _ HPb.out _).mono ?_
  rintro e w2 ⟨rfl, hb2⟩
  have S2 := keepS hb2 S1
  clear hb2
  clear S1
  go_wp2_with fail
  refine (f86_is _ _ _ _ _ HL.out _).mono ?_
  rintro e w3 ⟨rfl, rfl⟩
  go_wp2_with fail
  refine (f86_is _ _ _ _ _ HT.out _).mono ?_
  rintro e w3 ⟨rfl, rfl⟩
  have hz := (sB S2).size
  have hw' := Hw.out
  go_wp2
  go_ret
  exact ⟨_, rfl, by rw [HX.out, HT.out]; exact row_lit2 w2 _ _ _ hz, balloc (sB S2) _⟩

theorem f60_any (c : Cfg) (a b : Int) (w : World) :
    Calls Try.prog 60 #[cv c, .int .i64 a, .int .i64 b] w fun e w' => ∃ v, e = .returned v ∧ Row w' w.heap.size v (optP c a b) ∧ Below w.heap.size w w' := by
  rcases ha : isB c a with _ | _
  · exact f60_na c a b ha w
  · rcases hb : isB c b with _ | _
    · exact f60_nb c a b ha hb w
    · rcases (by omega : b % c.W < a % c.W ∨ b % c.W = a % c.W ∨ a % c.W < b % c.W) with h | h | h
      · exact f60_w c a b ha hb h w
      · exact f60_s c a b ha hb h w
      · rcases hw : c.ws with _ | _
        · exact f60_x c a b ha hb h hw w
        · by_cases hy : b / c.W = a / c.W
          · exact f60_y c a b ha hb h hw hy w
          · exact f60_z c a b ha hb h hw hy w

set_option maxHeartbeats 1000000 in
set_option maxRecDepth 20000 in
theorem f61_na (c : Cfg) (a b : Int) (h : isB c a = false) (w : World) :
    Calls Try.prog 61 #[cv c, .int .i64 a, .int .i64 b] w fun e w' => ∃ v, e = .returned v ∧ Row w' w.heap.size v (optP c a b) ∧ Below w.heap.size w w' := by
  have HO := Hd.mk (opt_no (c := c) (a := a) (b := b) (by rw [h]; simp))
  have HB := Hd.mk h
  clear h
  go_enter Try.func61, Try.ntmps61
  go_wp2_with fail
  refine (f38_is c a false HB.out _).mono ?_
  rintro e w1 ⟨rfl, hb1⟩
  have S1 := keepS hb1 (s0 c w)
  clear hb1
  go_wp2
  go_ret
  exact ⟨_, rfl, by rw [HO.out]; exact Row.nil_ _ _, sB S1⟩

set_option maxHeartbeats 1000000 in
set_option maxRecDepth 20000 in
theorem f61_nb (c : Cfg) (a b : Int) (ha : isB c a = true) (h : isB c b = false) (w : World) :
    Calls Try.prog 61 #[cv c, .int .i64 a, .int .i64 b] w fun e w' => ∃ v, e = .returned v ∧ Row w' w.heap.size v (optP c a b) ∧ Below w.heap.size w w' := by
  have HO := Hd.mk (opt_no (c := c) (a := a) (b := b) (by rw [h]; simp))
  have HA := Hd.mk ha
  have HB := Hd.mk h
  clear h ha
  go_enter Try.func61, Try.ntmps61
  go_wp2_with fail
  refine (f38_is c a true HA.out _).mono ?_
  rintro e w1 ⟨rfl, hb1⟩
  have S1 := keepS hb1 (s0 c w)
  clear hb1
  go_wp2_with fail
  refine (f38_is c b false HB.out _).mono ?_
  rintro e w2 ⟨rfl, hb2⟩
  have S2 := keepS hb2 S1
  clear hb2
  clear S1
  go_wp2
  go_ret
  exact ⟨_, rfl, by rw [HO.out]; exact Row.nil_ _ _, sB S2⟩

set_option maxHeartbeats 1000000 in
set_option maxRecDepth 20000 in
theorem f61_eq (c : Cfg) (a b : Int) (ha : isB c a = true) (hb : isB c b = true) (he : a = b) (w : World) :
    Calls Try.prog 61 #[cv c, .int .i64 a, .int .i64 b] w fun e w' => ∃ v, e = .returned v ∧ Row w' w.heap.size v (optP c a b) ∧ Below w.heap.size w w' := by
  have HX : Hd (optP c a b = [0]) := ⟨by unfold optP; rw [if_pos ⟨ha, hb⟩]; subst he; rw [if_neg (by omega), if_pos rfl]; simp [sgn]⟩
  have hk := chk_okc (isB_chk ha)
  have k1 := hk.W1
  have k2 := hk.W2
  clear hk
  have hia := inn ha
  have x0a := hia.x0
  have x2a := hia.x2
  have y0a := hia.y0
  have y2a := hia.y2
  have n0a := hia.n0
  have n1a := hia.n1
  clear hia
  have hib := inn hb
  have x0b := hib.x0
  have x2b := hib.x2
  have y0b := hib.y0
  have y2b := hib.y2
  have n0b := hib.n0
  have n1b := hib.n1
  clear hib
  have he0 : (a == b) = true := by rw [he]; simp
  obtain ⟨ax, HAX⟩ : ∃ z, Hd (a % c.W = z) := ⟨_, ⟨rfl⟩⟩
  obtain ⟨bx, HBX⟩ : ∃ z, Hd (b % c.W = z) := ⟨_, ⟨rfl⟩⟩
  obtain ⟨ay, HAY⟩ : ∃ z, Hd (a / c.W = z) := ⟨_, ⟨rfl⟩⟩
  obtain ⟨bY, HBY⟩ : ∃ z, Hd (b / c.W = z) := ⟨_, ⟨rfl⟩⟩
  have HA := Hd.mk ha
  have HB := Hd.mk hb
  clear ha hb he
  rw [HAX.out] at x0a x2a
  rw [HBX.out] at x0b x2b
  rw [HAY.out] at y0a y2a
  rw [HBY.out] at y0b y2b
  go_enter Try.func61, Try.ntmps61
  go_wp2_with fail
  refine (f38_is c a true HA.out _).mono ?_
  rintro e w1 ⟨rfl, hb1⟩
  have S1 := keepS hb1 (s0 c w)
  clear hb1
  go_wp2_with fail
  refine (f38_is c b true HB.out _).mono ?_
  rintro e w2 ⟨rfl, hb2⟩
  have S2 := keepS hb2 S1
  clear hb2
  clear S1
  have hz := (sB S2).size
  go_wp2
  go_ret
  exact ⟨_, rfl, by rw [HX.out]; exact row_lit1 w2 _ _ hz, balloc (sB S2) _⟩

set_option maxHeartbeats 1000000 in
set_option maxRecDepth 20000 in
theorem f61_w (c : Cfg) (a b : Int) (ha : isB c a = true) (hb : isB c b = true) (hx : b % c.W < a % c.W) (w : World) :
    Calls Try.prog 61 #[cv c, .int .i64 a, .int .i64 b] w fun e w' => ∃ v, e = .returned v ∧ Row w' w.heap.size v (optP c a b) ∧ Below w.heap.size w w' := by
  have HX : Hd (optP c a b = [2]) := ⟨by unfold optP; rw [if_pos ⟨ha, hb⟩]; rw [if_pos hx]⟩
  have hk := chk_okc (isB_chk ha)
  have k1 := hk.W1
  have k2 := hk.W2
  clear hk
  have hia := inn ha
  have x0a := hia.x0
  have x2a := hia.x2
  have y0a := hia.y0
  have y2a := hia.y2
  have n0a := hia.n0
  have n1a := hia.n1
  clear hia
  have hib := inn hb
  have x0b := hib.x0
  have x2b := hib.x2
  have y0b := hib.y0
  have y2b := hib.y2
  have n0b := hib.n0
  have n1b := hib.n1
  clear hib
  have he0 : (a == b) = false := by rw [beq_eq_false_iff_ne]; rintro rfl; omega
  obtain ⟨ax, HAX⟩ : ∃ z, Hd (a % c.W = z) := ⟨_, ⟨rfl⟩⟩
  obtain ⟨bx, HBX⟩ : ∃ z, Hd (b % c.W = z) := ⟨_, ⟨rfl⟩⟩
  obtain ⟨ay, HAY⟩ : ∃ z, Hd (a / c.W = z) := ⟨_, ⟨rfl⟩⟩
  obtain ⟨bY, HBY⟩ : ∃ z, Hd (b / c.W = z) := ⟨_, ⟨rfl⟩⟩
  have HA := Hd.mk ha
  have HB := Hd.mk hb
  clear ha hb
  rw [HAX.out] at x0a x2a hx
  rw [HBX.out] at x0b x2b hx
  rw [HAY.out] at y0a y2a
  rw [HBY.out] at y0b y2b
  go_enter Try.func61, Try.ntmps61
  go_wp2_with fail
  refine (f38_is c a true HA.out _).mono ?_
  rintro e w1 ⟨rfl, hb1⟩
  have S1 := keepS hb1 (s0 c w)
  clear hb1
  go_wp2_with fail
  refine (f38_is c b true HB.out _).mono ?_
  rintro e w2 ⟨rfl, hb2⟩
  have S2 := keepS hb2 S1
  clear hb2
  clear S1
  go_wp2_with fail
  have HS3 := Hd.mk S2
  clear S2
  go_region_held3 (fun W => W.cell? ⟨w.heap.size, 0, none⟩ = some (.int .i64 c.W) ∧ W.cell? ⟨w.heap.size, 1, none⟩ = some (.int .i64 c.H) ∧ W.cell? ⟨w.heap.size, 2, none⟩ = some (.int .i64 c.L) ∧ W.cell? ⟨w.heap.size, 3, none⟩ = some (.int .i64 c.D) ∧ W.cell? ⟨w.heap.size, 4, none⟩ = some (.int .i64 c.R) ∧ W.cell? ⟨w.heap.size, 5, none⟩ = some (.int .i64 c.I) ∧ W.cell? ⟨w.heap.size, 6, none⟩ = some (.int .i64 c.B) ∧ W.cell? ⟨w.heap.size, 7, none⟩ = some (.bool c.ws) ∧ W.cell? ⟨w.heap.size, 8, none⟩ = some (.bool c.cs) ∧ w.heap.size < W.heap.size ∧ Below w.heap.size w W) (first | exact dS HS3.out | exact keepS (by assumption) (by assumption))
    (first | (go_at_call 39; (with_reducible refine (f39_nm c b bx HBX.out n0b n1b k1 k2 _).mono ?_); rintro e wq ⟨rfl, hbq⟩) | (go_at_call 39; (with_reducible refine (f39_nm c a ax HAX.out n0a n1a k1 k2 _).mono ?_); rintro e wq ⟨rfl, hbq⟩))
  rename_i S3
  clear HS3
  go_wp2_with fail
  have HS4 := Hd.mk S3
  clear S3
  go_region_held3 (fun W => W.cell? ⟨w.heap.size, 0, none⟩ = some (.int .i64 c.W) ∧ W.cell? ⟨w.heap.size, 1, none⟩ = some (.int .i64 c.H) ∧ W.cell? ⟨w.heap.size, 2, none⟩ = some (.int .i64 c.L) ∧ W.cell? ⟨w.heap.size, 3, none⟩ = some (.int .i64 c.D) ∧ W.cell? ⟨w.heap.size, 4, none⟩ = some (.int .i64 c.R) ∧ W.cell? ⟨w.heap.size, 5, none⟩ = some (.int .i64 c.I) ∧ W.cell? ⟨w.heap.size, 6, none⟩ = some (.int .i64 c.B) ∧ W.cell? ⟨w.heap.size, 7, none⟩ = some (.bool c.ws) ∧ W.cell? ⟨w.heap.size, 8, none⟩ = some (.bool c.cs) ∧ w.heap.size < W.heap.size ∧ Below w.heap.size w W) (first | exact dS HS4.out | exact keepS (by assumption) (by assumption))
    (first | (go_at_call 40; (with_reducible refine (f40_nm c b bY HBY.out n0b n1b k1 k2 _).mono ?_); rintro e wq ⟨rfl, hbq⟩) | (go_at_call 40; (with_reducible refine (f40_nm c a ay HAY.out n0a n1a k1 k2 _).mono ?_); rintro e wq ⟨rfl, hbq⟩))
  rename_i S4
  clear HS4
  have hz := (sB S4).size
  have hg := S4.2.2.2.2.2.2.2.2.2.1
  go_wp2
  go_ret
  exact ⟨_, rfl, by rw [HX.out]; exact row_lit1 wq _ _ hz, balloc (sB S4) _⟩

set_option maxHeartbeats 1000000 in
set_option maxRecDepth 20000 in
theorem f61_n (c : Cfg) (a b : Int) (ha : isB c a = true) (hb : isB c b = true) (hx : b % c.W = a % c.W) (hy : a / c.W < b / c.W) (w : World) :
    Calls Try.prog 61 #[cv c, .int .i64 a, .int .i64 b] w fun e w' => ∃ v, e = .returned v ∧ Row w' w.heap.size v (optP c a b) ∧ Below w.heap.size w w' := by
  have HX : Hd (optP c a b = [3]) := ⟨by unfold optP; rw [if_pos ⟨ha, hb⟩]; rw [if_neg (by omega), if_pos hx]; unfold sgn; rw [if_neg (by omega), if_neg (by omega)]⟩
  have hk := chk_okc (isB_chk ha)
  have k1 := hk.W1
  have k2 := hk.W2
  clear hk
  have hia := inn ha
  have x0a := hia.x0
  have x2a := hia.x2
  have y0a := hia.y0
  have y2a := hia.y2
  have n0a := hia.n0
  have n1a := hia.n1
  clear hia
  have hib := inn hb
  have x0b := hib.x0
  have x2b := hib.x2
  have y0b := hib.y0
  have y2b := hib.y2
  have n0b := hib.n0
  have n1b := hib.n1
  clear hib
  have he0 : (a == b) = false := by rw [beq_eq_false_iff_ne]; rintro rfl; omega
  obtain ⟨ax, HAX⟩ : ∃ z, Hd (a % c.W = z) := ⟨_, ⟨rfl⟩⟩
  obtain ⟨bx, HBX⟩ : ∃ z, Hd (b % c.W = z) := ⟨_, ⟨rfl⟩⟩
  obtain ⟨ay, HAY⟩ : ∃ z, Hd (a / c.W = z) := ⟨_, ⟨rfl⟩⟩
  obtain ⟨bY, HBY⟩ : ∃ z, Hd (b / c.W = z) := ⟨_, ⟨rfl⟩⟩
  have HA := Hd.mk ha
  have HB := Hd.mk hb
  clear ha hb
  rw [HAX.out] at x0a x2a hx
  rw [HBX.out] at x0b x2b hx
  rw [HAY.out] at y0a y2a hy
  rw [HBY.out] at y0b y2b hy
  have hx1 : bx ≤ ax := by omega
  have hx2 : ax ≤ bx := by omega
  clear hx
  go_enter Try.func61, Try.ntmps61
  go_wp2_with fail
  refine (f38_is c a true HA.out _).mono ?_
  rintro e w1 ⟨rfl, hb1⟩
  have S1 := keepS hb1 (s0 c w)
  clear hb1
  go_wp2_with fail
  refine (f38_is c b true HB.out _).mono ?_
  rintro e w2 ⟨rfl, hb2⟩
  have S2 := keepS hb2 S1
  clear hb2
  clear S1
  go_wp2_with fail
  have HS3 := Hd.mk S2
  clear S2
  go_region_held3 (fun W => W.cell? ⟨w.heap.size, 0, none⟩ = some (.int .i64 c.W) ∧ W.cell? ⟨w.heap.size, 1, none⟩ = some (.int .i64 c.H) ∧ W.cell? ⟨w.heap.size, 2, none⟩ = some (.int .i64 c.L) ∧ W.cell? ⟨w.heap.size, 3, none⟩ = some (.int .i64 c.D) ∧ W.cell? ⟨w.heap.size, 4, none⟩ = some (.int .i64 c.R) ∧ W.cell? ⟨w.heap.size, 5, none⟩ = some (.int .i64 c.I) ∧ W.cell? ⟨w.heap.size, 6, none⟩ = some (.int .i64 c.B) ∧ W.cell? ⟨w.heap.size, 7, none⟩ = some (.bool c.ws) ∧ W.cell? ⟨w.heap.size, 8, none⟩ = some (.bool c.cs) ∧ w.heap.size < W.heap.size ∧ Below w.heap.size w W) (first | exact dS HS3.out | exact keepS (by assumption) (by assumption))
    (first | (go_at_call 39; (with_reducible refine (f39_nm c b bx HBX.out n0b n1b k1 k2 _).mono ?_); rintro e wq ⟨rfl, hbq⟩) | (go_at_call 39; (with_reducible refine (f39_nm c a ax HAX.out n0a n1a k1 k2 _).mono ?_); rintro e wq ⟨rfl, hbq⟩))
  rename_i S3
  clear HS3
  go_wp2_with fail
  have HS4 := Hd.mk S3
  clear S3
  go_region_held3 (fun W => W.cell? ⟨w.heap.size, 0, none⟩ = some (.int .i64 c.W) ∧ W.cell? ⟨w.heap.size, 1, none⟩ = some (.int .i64 c.H) ∧ W.cell? ⟨w.heap.size, 2, none⟩ = some (.int .i64 c.L) ∧ W.cell? ⟨w.heap.size, 3, none⟩ = some (.int .i64 c.D) ∧ W.cell? ⟨w.heap.size, 4, none⟩ = some (.int .i64 c.R) ∧ W.cell? ⟨w.heap.size, 5, none⟩ = some (.int .i64 c.I) ∧ W.cell? ⟨w.heap.size, 6, none⟩ = some (.int .i64 c.B) ∧ W.cell? ⟨w.heap.size, 7, none⟩ = some (.bool c.ws) ∧ W.cell? ⟨w.heap.size, 8, none⟩ = some (.bool c.cs) ∧ w.heap.size < W.heap.size ∧ Below w.heap.size w W) (first | exact dS HS4.out | exact keepS (by assumption) (by assumption))
    (first | (go_at_call 40; (with_reducible refine (f40_nm c b bY HBY.out n0b n1b k1 k2 _).mono ?_); rintro e wq ⟨rfl, hbq⟩) | (go_at_call 40; (with_reducible refine (f40_nm c a ay HAY.out n0a n1a k1 k2 _).mono ?_); rintro e wq ⟨rfl, hbq⟩))
  rename_i S4
  clear HS4
  have hz := (sB S4).size
  have hg := S4.2.2.2.2.2.2.2.2.2.1
  go_wp2_with (first | (at_builtin; refine wpList_app1 rfl (.tmp 56) (.tmp 57) rfl (w.heap.size + 1) _ _ rfl _ rfl 3 (Row.alloc (Row.nil_ wq (w.heap.size + 1)) _) (by simp) (by simp) (by simp; omega) ?_; intro v0 W0 hr0 hg0; have T0 := keepG hg0 (Row.alloc (Row.nil_ wq (w.heap.size + 1)) _) (by omega) (by omega) (allocS _ S4); have HR0 := Hd.mk hr0; have hgg0 := T0.2.2.2.2.2.2.2.2.2.1; clear hr0 hg0))
  go_ret
  exact ⟨_, rfl, by rw [HX.out]; exact HR0.out.mono (by omega), sB T0⟩

set_option maxHeartbeats 1000000 in
set_option maxRecDepth 20000 in
theorem f61_u (c : Cfg) (a b : Int) (ha : isB c a = true) (hb : isB c b = true) (hx : b % c.W = a % c.W) (hy : b / c.W < a / c.W) (w : World) :
    Calls Try.prog 61 #[cv c, .int .i64 a, .int .i64 b] w fun e w' => ∃ v, e = .returned v ∧ Row w' w.heap.size v (optP c a b) ∧ Below w.heap.size w w' := by
  have HX : Hd (optP c a b = [4]) := ⟨by unfold optP; rw [if_pos ⟨ha, hb⟩]; rw [if_neg (by omega), if_pos hx]; unfold sgn; rw [if_pos hy]⟩
  have hk := chk_okc (isB_chk ha)
  have k1 := hk.W1
  have k2 := hk.W2
  clear hk
  have hia := inn ha
  have x0a := hia.x0
  have x2a := hia.x2
  have y0a := hia.y0
  have y2a := hia.y2
  have n0a := hia.n0
  have n1a := hia.n1
  clear hia
  have hib := inn hb
  have x0b := hib.x0
  have x2b := hib.x2
  have y0b := hib.y0
  have y2b := hib.y2
  have n0b := hib.n0
  have n1b := hib.n1
  clear hib
  have he0 : (a == b) = false := by rw [beq_eq_false_iff_ne]; rintro rfl; omega
  obtain ⟨ax, HAX⟩ : ∃ z, Hd (a % c.W = z) := ⟨_, ⟨rfl⟩⟩
  obtain ⟨bx, HBX⟩ : ∃ z, Hd (b % c.W = z) := ⟨_, ⟨rfl⟩⟩
  obtain ⟨ay, HAY⟩ : ∃ z, Hd (a / c.W = z) := ⟨_, ⟨rfl⟩⟩
  obtain ⟨bY, HBY⟩ : ∃ z, Hd (b / c.W = z) := ⟨_, ⟨rfl⟩⟩
  have HA := Hd.mk ha
  have HB := Hd.mk hb
  clear ha hb
  rw [HAX.out] at x0a x2a hx
  rw [HBX.out] at x0b x2b hx
  rw [HAY.out] at y0a y2a hy
  rw [HBY.out] at y0b y2b hy
  have hx1 : bx ≤ ax := by omega
  have hx2 : ax ≤ bx := by omega
  clear hx
  go_enter Try.func61, Try.ntmps61
  go_wp2_with fail
  refine (f38_is c a true HA.out _).mono ?_
  rintro e w1 ⟨rfl, hb1⟩
  have S1 := keepS hb1 (s0 c w)
  clear hb1
  go_wp2_with fail
  refine (f38_is c b true HB.out _).mono ?_
  rintro e w2 ⟨rfl, hb2⟩
  have S2 := keepS hb2 S1
  clear hb2
  clear S1
  go_wp2_with fail
  have HS3 := Hd.mk S2
  clear S2
  go_region_held3 (fun W => W.cell? ⟨w.heap.size, 0, none⟩ = some (.int .i64 c.W) ∧ W.cell? ⟨w.heap.size, 1, none⟩ = some (.int .i64 c.H) ∧ W.cell? ⟨w.heap.size, 2, none⟩ = some (.int .i64 c.L) ∧ W.cell? ⟨w.heap.size, 3, none⟩ = some (.int .i64 c.D) ∧ W.cell? ⟨w.heap.size, 4, none⟩ = some (.int .i64 c.R) ∧ W.cell? ⟨w.heap.size, 5, none⟩ = some (.int .i64 c.I) ∧ W.cell? ⟨w.heap.size, 6, none⟩ = some (.int .i64 c.B) ∧ W.cell? ⟨w.heap.size, 7, none⟩ = some (.bool c.ws) ∧ W.cell? ⟨w.heap.size, 8, none⟩ = some (.bool c.cs) ∧ w.heap.size < W.heap.size ∧ Below w.heap.size w W) (first | exact dS HS3.out | exact keepS (by assumption) (by assumption))
    (first | (go_at_call 39; (with_reducible refine (f39_nm c b bx HBX.out n0b n1b k1 k2 _).mono ?_); rintro e wq ⟨rfl, hbq⟩) | (go_at_call 39; (with_reducible refine (f39_nm c a ax HAX.out n0a n1a k1 k2 _).mono ?_); rintro e wq ⟨rfl, hbq⟩))
  rename_i S3
  clear HS3
  go_wp2_with fail
  have HS4 := Hd.mk S3
  clear S3
  go_region_held3 (fun W => W.cell? ⟨w.heap.size, 0, none⟩ = some (.int .i64 c.W) ∧ W.cell? ⟨w.heap.size, 1, none⟩ = some (.int .i64 c.H) ∧ W.cell? ⟨w.heap.size, 2, none⟩ = some (.int .i64 c.L) ∧ W.cell? ⟨w.heap.size, 3, none⟩ = some (.int .i64 c.D) ∧ W.cell? ⟨w.heap.size, 4, none⟩ = some (.int .i64 c.R) ∧ W.cell? ⟨w.heap.size, 5, none⟩ = some (.int .i64 c.I) ∧ W.cell? ⟨w.heap.size, 6, none⟩ = some (.int .i64 c.B) ∧ W.cell? ⟨w.heap.size, 7, none⟩ = some (.bool c.ws) ∧ W.cell? ⟨w.heap.size, 8, none⟩ = some (.bool c.cs) ∧ w.heap.size < W.heap.size ∧ Below w.heap.size w W) (first | exact dS HS4.out | exact keepS (by assumption) (by assumption))
    (first | (go_at_call 40; (with_reducible refine (f40_nm c b bY HBY.out n0b n1b k1 k2 _).mono ?_); rintro e wq ⟨rfl, hbq⟩) | (go_at_call 40; (with_reducible refine (f40_nm c a ay HAY.out n0a n1a k1 k2 _).mono ?_); rintro e wq ⟨rfl, hbq⟩))
  rename_i S4
  clear HS4
  have hz := (sB S4).size
  have hg := S4.2.2.2.2.2.2.2.2.2.1
  go_wp2_with (first | (at_builtin; refine wpList_app1 rfl (.tmp 61) (.tmp 62) rfl (w.heap.size + 1) _ _ rfl _ rfl 4 (Row.alloc (Row.nil_ wq (w.heap.size + 1)) _) (by simp) (by simp) (by simp; omega) ?_; intro v0 W0 hr0 hg0; have T0 := keepG hg0 (Row.alloc (Row.nil_ wq (w.heap.size + 1)) _) (by omega) (by omega) (allocS _ S4); have HR0 := Hd.mk hr0; have hgg0 := T0.2.2.2.2.2.2.2.2.2.1; clear hr0 hg0))
  go_ret
  exact ⟨_, rfl, by rw [HX.out]; exact HR0.out.mono (by omega), sB T0⟩

set_option maxHeartbeats 1000000 in
set_option maxRecDepth 20000 in
theorem f61_x (c : Cfg) (a b : Int) (ha : isB c a = true) (hb : isB c b = true) (hx : a % c.W < b % c.W) (hw : c.ws = false) (w : World) :
    Calls Try.prog 61 #[cv c, .int .i64 a, .int .i64 b] w fun e w' => ∃ v, e = .returned v ∧ Row w' w.heap.size v (optP c a b) ∧ Below w.heap.size w w' := by
  have HX : Hd (optP c a b = [1]) := ⟨by unfold optP; rw [if_pos ⟨ha, hb⟩]; rw [if_neg (by omega), if_neg (by omega), if_neg (by rw [hw]; simp)]⟩
  have hk := chk_okc (isB_chk ha)
  have k1 := hk.W1
  have k2 := hk.W2
  clear hk
  have hia := inn ha
  have x0a := hia.x0
  have x2a := hia.x2
  have y0a := hia.y0
  have y2a := hia.y2
  have n0a := hia.n0
  have n1a := hia.n1
  clear hia
  have hib := inn hb
  have x0b := hib.x0
  have x2b := hib.x2
  have y0b := hib.y0
  have y2b := hib.y2
  have n0b := hib.n0
  have n1b := hib.n1
  clear hib
  have he0 : (a == b) = false := by rw [beq_eq_false_iff_ne]; rintro rfl; omega
  obtain ⟨ax, HAX⟩ : ∃ z, Hd (a % c.W = z) := ⟨_, ⟨rfl⟩⟩
  obtain ⟨bx, HBX⟩ : ∃ z, Hd (b % c.W = z) := ⟨_, ⟨rfl⟩⟩
  obtain ⟨ay, HAY⟩ : ∃ z, Hd (a / c.W = z) := ⟨_, ⟨rfl⟩⟩
  obtain ⟨bY, HBY⟩ : ∃ z, Hd (b / c.W = z) := ⟨_, ⟨rfl⟩⟩
  have HA := Hd.mk ha
  have HB := Hd.mk hb
  have Hw := Hd.mk hw
  clear hw
  clear ha hb
  rw [HAX.out] at x0a x2a hx
  rw [HBX.out] at x0b x2b hx
  rw [HAY.out] at y0a y2a
  rw [HBY.out] at y0b y2b
  go_enter Try.func61, Try.ntmps61
  go_wp2_with fail
  refine (f38_is c a true HA.out _).mono ?_
  rintro e w1 ⟨rfl, hb1⟩
  have S1 := keepS hb1 (s0 c w)
  clear hb1
  go_wp2_with fail
  refine (f38_is c b true HB.out _).mono ?_
  rintro e w2 ⟨rfl, hb2⟩
  have S2 := keepS hb2 S1
  clear hb2
  clear S1
  go_wp2_with fail
  have HS3 := Hd.mk S2
  clear S2
  go_region_held3 (fun W => W.cell? ⟨w.heap.size, 0, none⟩ = some (.int .i64 c.W) ∧ W.cell? ⟨w.heap.size, 1, none⟩ = some (.int .i64 c.H) ∧ W.cell? ⟨w.heap.size, 2, none⟩ = some (.int .i64 c.L) ∧ W.cell? ⟨w.heap.size, 3, none⟩ = some (.int .i64 c.D) ∧ W.cell? ⟨w.heap.size, 4, none⟩ = some (.int .i64 c.R) ∧ W.cell? ⟨w.heap.size, 5, none⟩ = some (.int .i64 c.I) ∧ W.cell? ⟨w.heap.size, 6, none⟩ = some (.int .i64 c.B) ∧ W.cell? ⟨w.heap.size, 7, none⟩ = some (.bool c.ws) ∧ W.cell? ⟨w.heap.size, 8, none⟩ = some (.bool c.cs) ∧ w.heap.size < W.heap.size ∧ Below w.heap.size w W) (first | exact dS HS3.out | exact keepS (by assumption) (by assumption))
    (first | (go_at_call 39; (with_reducible refine (f39_nm c b bx HBX.out n0b n1b k1 k2 _).mono ?_); rintro e wq ⟨rfl, hbq⟩) | (go_at_call 39; (with_reducible refine (f39_nm c a ax HAX.out n0a n1a k1 k2 _).mono ?_); rintro e wq ⟨rfl, hbq⟩))
  rename_i S3
  clear HS3
  go_wp2_with fail
  have HS4 := Hd.mk S3
  clear S3
  go_region_held3 (fun W => W.cell? ⟨w.heap.size, 0, none⟩ = some (.int .i64 c.W) ∧ W.cell? ⟨w.heap.size, 1, none⟩ = some (.int .i64 c.H) ∧ W.cell? ⟨w.heap.size, 2, none⟩ = some (.int .i64 c.L) ∧ W.cell? ⟨w.heap.size, 3, none⟩ = some (.int .i64 c.D) ∧ W.cell? ⟨w.heap.size, 4, none⟩ = some (.int .i64 c.R) ∧ W.cell? ⟨w.heap.size, 5, none⟩ = some (.int .i64 c.I) ∧ W.cell? ⟨w.heap.size, 6, none⟩ = some (.int .i64 c.B) ∧ W.cell? ⟨w.heap.size, 7, none⟩ = some (.bool c.ws) ∧ W.cell? ⟨w.heap.size, 8, none⟩ = some (.bool c.cs) ∧ w.heap.size < W.heap.size ∧ Below w.heap.size w W) (first | exact dS HS4.out | exact keepS (by assumption) (by assumption))
    (first | (go_at_call 40; (with_reducible refine (f40_nm c b bY HBY.out n0b n1b k1 k2 _).mono ?_); rintro e wq ⟨rfl, hbq⟩) | (go_at_call 40; (with_reducible refine (f40_nm c a ay HAY.out n0a n1a k1 k2 _).mono ?_); rintro e wq ⟨rfl, hbq⟩))
  rename_i S4
  clear HS4
  have hz := (sB S4).size
  have hg := S4.2.2.2.2.2.2.2.2.2.1
  have hw' := Hw.out
  go_wp2_with (first | (at_builtin; refine wpList_app1 rfl (.tmp 43) (.tmp 44) rfl (w.heap.size + 1) _ _ rfl _ rfl 1 (Row.alloc (Row.nil_ wq (w.heap.size + 1)) _) (by simp) (by simp) (by simp; omega) ?_; intro v0 W0 hr0 hg0; have T0 := keepG hg0 (Row.alloc (Row.nil_ wq (w.heap.size + 1)) _) (by omega) (by omega) (allocS _ S4); have HR0 := Hd.mk hr0; have hgg0 := T0.2.2.2.2.2.2.2.2.2.1; clear hr0 hg0))
  go_ret
  exact ⟨_, rfl, by rw [HX.out]; exact HR0.out.mono (by omega), sB T0⟩

set_option maxHeartbeats 1000000 in
set_option maxRecDepth 20000 in
theorem f61_y (c : Cfg) (a b : Int) (ha : isB c a = true) (hb : isB c b = true) (hx : a % c.W < b % c.W) (hw : c.ws = true) (hy : b / c.W = a / c.W) (w : World) :
    Calls Try.prog 61 #[cv c, .int .i64 a, .int .i64 b] w fun e w' => ∃ v, e = .returned v ∧ Row w' w.heap.size v (optP c a b) ∧ Below w.heap.size w w' := by
  have HX : Hd (optP c a b = [1]) := ⟨by unfold optP; rw [if_pos ⟨ha, hb⟩]; rw [if_neg (by omega), if_neg (by omega), if_neg (by simp [hy])]⟩
  have hk := chk_okc (isB_chk ha)
  have k1 := hk.W1
  have k2 := hk.W2
  clear hk
  have hia := inn ha
  have x0a := hia.x0
  have x2a := hia.x2
  have y0a := hia.y0
  have y2a := hia.y2
  have n0a := hia.n0
  have n1a := hia.n1
  clear hia
  have hib := inn hb
  have x0b := hib.x0
  have x2b := hib.x2
  have y0b := hib.y0
  have y2b := hib.y2
  have n0b := hib.n0
  have n1b := hib.n1
  clear hib
  have he0 : (a == b) = false := by rw [beq_eq_false_iff_ne]; rintro rfl; omega
  obtain ⟨ax, HAX⟩ : ∃ z, Hd (a % c.W = z) := ⟨_, ⟨rfl⟩⟩
  obtain ⟨bx, HBX⟩ : ∃ z, Hd (b % c.W = z) := ⟨_, ⟨rfl⟩⟩
  obtain ⟨ay, HAY⟩ : ∃ z, Hd (a / c.W = z) := ⟨_, ⟨rfl⟩⟩
  obtain ⟨bY, HBY⟩ : ∃ z, Hd (b / c.W = z) := ⟨_, ⟨rfl⟩⟩
  have HA := Hd.mk ha
  have HB := Hd.mk hb
  have Hw := Hd.mk hw
  clear hw
  clear ha hb
  rw [HAX.out] at x0a x2a hx
  rw [HBX.out] at x0b x2b hx
  rw [HAY.out] at y0a y2a hy
  rw [HBY.out] at y0b y2b hy
  have hy1 : bY ≤ ay := by omega
  have hy2 : ay ≤ bY := by omega
  clear hy
  go_enter Try.func61, Try.ntmps61
  go_wp2_with fail
  refine (f38_is c a true HA.out _).mono ?_
  rintro e w1 ⟨rfl, hb1⟩
  have S1 := keepS hb1 (s0 c w)
  clear hb1
  go_wp2_with fail
  refine (f38_is c b true HB.out _).mono ?_
  rintro e w2 ⟨rfl, hb2⟩
  have S2 := keepS hb2 S1
  clear hb2
  clear S1
  go_wp2_with fail
  have HS3 := Hd.mk S2
  clear S2
  go_region_held3 (fun W => W.cell? ⟨w.heap.size, 0, none⟩ = some (.int .i64 c.W) ∧ W.cell? ⟨w.heap.size, 1, none⟩ = some (.int .i64 c.H) ∧ W.cell? ⟨w.heap.size, 2, none⟩ = some (.int .i64 c.L) ∧ W.cell? ⟨w.heap.size, 3, none⟩ = some (.int .i64 c.D) ∧ W.cell? ⟨w.heap.size, 4, none⟩ = some (.int .i64 c.R) ∧ W.cell? ⟨w.heap.size, 5, none⟩ = some (.int .i64 c.I) ∧ W.cell? ⟨w.heap.size, 6, none⟩ = some (.int .i64 c.B) ∧ W.cell? ⟨w.heap.size, 7, none⟩ = some (.bool c.ws) ∧ W.cell? ⟨w.heap.size, 8, none⟩ = some (.bool c.cs) ∧ w.heap.size < W.heap.size ∧ Below w.heap.size w W) (first | exact dS HS3.out | exact keepS (by assumption) (by assumption))
    (first | (go_at_call 39; (with_reducible refine (f39_nm c b bx HBX.out n0b n1b k1 k2 _).mono ?_); rintro e wq ⟨rfl, hbq⟩) | (go_at_call 39; (with_reducible refine (f39_nm c a ax HAX.out n0a n1a k1 k2 _).mono ?_); rintro e wq ⟨rfl, hbq⟩))
  rename_i S3
  clear HS3
  go_wp2_with fail
  have HS4 := Hd.mk S3
  clear S3
  go_region_held3 (fun W => W.cell? ⟨w.heap.size, 0, none⟩ = some (.int .i64 c.W) ∧ W.cell? ⟨w.heap.size, 1, none⟩ = some (.int .i64 c.H) ∧ W.cell? ⟨w.heap.size, 2, none⟩ = some (.int .i64 c.L) ∧ W.cell? ⟨w.heap.size, 3, none⟩ = some (.int .i64 c.D) ∧ W.cell? ⟨w.heap.size, 4, none⟩ = some (.int .i64 c.R) ∧ W.cell? ⟨w.heap.size, 5, none⟩ = some (.int .i64 c.I) ∧ W.cell? ⟨w.heap.size, 6, none⟩ = some (.int .i64 c.B) ∧ W.cell? ⟨w.heap.size, 7, none⟩ = some (.bool c.ws) ∧ W.cell? ⟨w.heap.size, 8, none⟩ = some (.bool c.cs) ∧ w.heap.size < W.heap.size ∧ Below w.heap.size w W) (first | exact dS HS4.out | exact keepS (by assumption) (by assumption))
    (first | (go_at_call 40; (with_reducible refine (f40_nm c b bY HBY.out n0b n1b k1 k2 _).mono ?_); rintro e wq ⟨rfl, hbq⟩) | (go_at_call 40; (with_reducible refine (f40_nm c a ay HAY.out n0a n1a k1 k2 _).mono ?_); rintro e wq ⟨rfl, hbq⟩))
  rename_i S4
  clear HS4
  have hz := (sB S4).size
  have hg := S4.2.2.2.2.2.2.2.2.2.1
  have hw' := Hw.out
  go_wp2_with (first | (at_builtin; refine wpList_app1 rfl (.tmp 43) (.tmp 44) rfl (w.heap.size + 1) _ _ rfl _ rfl 1 (Row.alloc (Row.nil_ wq (w.heap.size + 1)) _) (by simp) (by simp) (by simp; omega) ?_; intro v0 W0 hr0 hg0; have T0 := keepG hg0 (Row.alloc (Row.nil_ wq (w.heap.size + 1)) _) (by omega) (by omega) (allocS _ S4); have HR0 := Hd.mk hr0; have hgg0 := T0.2.2.2.2.2.2.2.2.2.1; clear hr0 hg0))
  go_ret
  exact ⟨_, rfl, by rw [HX.out]; exact HR0.out.mono (by omega), sB T0⟩

set_option maxHeartbeats 1000000 in
set_option maxRecDepth 20000 in
theorem f61_z3 (c : Cfg) (a b : Int) (ha : isB c a = true) (hb : isB c b = true) (hx : a % c.W < b % c.W) (hw : c.ws = true) (hy : a / c.W < b / c.W) (w : World) :
    Calls Try.prog 61 #[cv c, .int .i64 a, .int .i64 b] w fun e w' => ∃ v, e = .returned v ∧ Row w' w.heap.size v (optP c a b) ∧ Below w.heap.size w w' := by
  have HX : Hd (optP c a b = [1, 3]) := ⟨by unfold optP; rw [if_pos ⟨ha, hb⟩]; rw [if_neg (by omega), if_neg (by omega), if_pos ⟨hw, by omega⟩]; unfold sgn; rw [if_neg (by omega), if_neg (by omega)]⟩
  have hk := chk_okc (isB_chk ha)
  have k1 := hk.W1
  have k2 := hk.W2
  clear hk
  have hia := inn ha
  have x0a := hia.x0
  have x2a := hia.x2
  have y0a := hia.y0
  have y2a := hia.y2
  have n0a := hia.n0
  have n1a := hia.n1
  clear hia
  have hib := inn hb
  have x0b := hib.x0
  have x2b := hib.x2
  have y0b := hib.y0
  have y2b := hib.y2
  have n0b := hib.n0
  have n1b := hib.n1
  clear hib
  have he0 : (a == b) = false := by rw [beq_eq_false_iff_ne]; rintro rfl; omega
  obtain ⟨ax, HAX⟩ : ∃ z, Hd (a % c.W = z) := ⟨_, ⟨rfl⟩⟩
  obtain ⟨bx, HBX⟩ : ∃ z, Hd (b % c.W = z) := ⟨_, ⟨rfl⟩⟩
  obtain ⟨ay, HAY⟩ : ∃ z, Hd (a / c.W = z) := ⟨_, ⟨rfl⟩⟩
  obtain ⟨bY, HBY⟩ : ∃ z, Hd (b / c.W = z) := ⟨_, ⟨rfl⟩⟩
  have HA := Hd.mk ha
  have HB := Hd.mk hb
  have Hw := Hd.mk hw
  clear hw
  clear ha hb
  rw [HAX.out] at x0a x2a hx
  rw [HBX.out] at x0b x2b hx
  rw [HAY.out] at y0a y2a hy
  rw [HBY.out] at y0b y2b hy
  go_enter Try.func61, Try.ntmps61
  go_wp2_with fail
  refine (f38_is c a true HA.out _).mono ?_
  rintro e w1 ⟨rfl, hb1⟩
  have S1 := keepS hb1 (s0 c w)
  clear hb1
  go_wp2_with fail
  refine (f38_is c b true HB.out _).mono ?_
  rintro e w2 ⟨rfl, hb2⟩
  have S2 := keepS hb2 S1
  clear hb2
  clear S1
  go_wp2_with fail
  have HS3 := Hd.mk S2
  clear S2
  go_region_held3 (fun W => W.cell? ⟨w.heap.size, 0, none⟩ = some (.int .i64 c.W) ∧ W.cell? ⟨w.heap.size, 1, none⟩ = some (.int .i64 c.H) ∧ W.cell? ⟨w.heap.size, 2, none⟩ = some (.int .i64 c.L) ∧ W.cell? ⟨w.heap.size, 3, none⟩ = some (.int .i64 c.D) ∧ W.cell? ⟨w.heap.size, 4, none⟩ = some (.int .i64 c.R) ∧ W.cell? ⟨w.heap.size, 5, none⟩ = some (.int .i64 c.I) ∧ W.cell? ⟨w.heap.size, 6, none⟩ = some (.int .i64 c.B) ∧ W.cell? ⟨w.heap.size, 7, none⟩ = some (.bool c.ws) ∧ W.cell? ⟨w.heap.size, 8, none⟩ = some (.bool c.cs) ∧ w.heap.size < W.heap.size ∧ Below w.heap.size w W) (first | exact dS HS3.out | exact keepS (by assumption) (by assumption))
    (first | (go_at_call 39; (with_reducible refine (f39_nm c b bx HBX.out n0b n1b k1 k2 _).mono ?_); rintro e wq ⟨rfl, hbq⟩) | (go_at_call 39; (with_reducible refine (f39_nm c a ax HAX.out n0a n1a k1 k2 _).mono ?_); rintro e wq ⟨rfl, hbq⟩))
  rename_i S3
  clear HS3
  go_wp2_with fail
  have HS4 := Hd.mk S3
  clear S3
  go_region_held3 (fun W => W.cell? ⟨w.heap.size, 0, none⟩ = some (.int .i64 c.W) ∧ W.cell? ⟨w.heap.size, 1, none⟩ = some (.int .i64 c.H) ∧ W.cell? ⟨w.heap.size, 2, none⟩ = some (.int .i64 c.L) ∧ W.cell? ⟨w.heap.size, 3, none⟩ = some (.int .i64 c.D) ∧ W.cell? ⟨w.heap.size, 4, none⟩ = some (.int .i64 c.R) ∧ W.cell? ⟨w.heap.size, 5, none⟩ = some (.int .i64 c.I) ∧ W.cell? ⟨w.heap.size, 6, none⟩ = some (.int .i64 c.B) ∧ W.cell? ⟨w.heap.size, 7, none⟩ = some (.bool c.ws) ∧ W.cell? ⟨w.heap.size, 8, none⟩ = some (.bool c.cs) ∧ w.heap.size < W.heap.size ∧ Below w.heap.size w W) (first | exact dS HS4.out | exact keepS (by assumption) (by assumption))
    (first | (go_at_call 40; (with_reducible refine (f40_nm c b bY HBY.out n0b n1b k1 k2 _).mono ?_); rintro e wq ⟨rfl, hbq⟩) | (go_at_call 40; (with_reducible refine (f40_nm c a ay HAY.out n0a n1a k1 k2 _).mono ?_); rintro e wq ⟨rfl, hbq⟩))
  rename_i S4
  clear HS4
  have hz := (sB S4).size
  have hg := S4.2.2.2.2.2.2.2.2.2.1
  have hw' := Hw.out
  go_wp2_with (first | (at_builtin; refine wpList_app1 rfl (.tmp 43) (.tmp 44) rfl (w.heap.size + 1) _ _ rfl _ rfl 1 (Row.alloc (Row.nil_ wq (w.heap.size + 1)) _) (by simp) (by simp) (by simp; omega) ?_; intro v0 W0 hr0 hg0; have T0 := keepG hg0 (Row.alloc (Row.nil_ wq (w.heap.size + 1)) _) (by omega) (by omega) (allocS _ S4); have HR0 := Hd.mk hr0; have hgg0 := T0.2.2.2.2.2.2.2.2.2.1; clear hr0 hg0) | (at_builtin; refine wpList_app1 rfl (.tmp 56) (.tmp 57) rfl (w.heap.size + 1) _ _ rfl _ rfl 3 (Row.alloc (HR0.out) _) (by simp) (by simp) (by simp; omega) ?_; intro v1 W1 hr1 hg1; have T1 := keepG hg1 (Row.alloc (HR0.out) _) (by omega) (by omega) (allocS _ T0); have HR1 := Hd.mk hr1; have hgg1 := T1.2.2.2.2.2.2.2.2.2.1; clear hr1 hg1))
  go_ret
  exact ⟨_, rfl, by rw [HX.out]; exact HR1.out.mono (by omega), sB T1⟩

set_option maxHeartbeats 1000000 in
set_option maxRecDepth 20000 in
theorem f61_z4 (c : Cfg) (a b : Int) (ha : isB c a = true) (hb : isB c b = true) (hx : a % c.W < b % c.W) (hw : c.ws = true) (hy : b / c.W < a / c.W) (w : World) :
    Calls Try.prog 61 #[cv c, .int .i64 a, .int .i64 b] w fun e w' => ∃ v, e = .returned v ∧ Row w' w.heap.size v (optP c a b) ∧ Below w.heap.size w w' := by
  have HX : Hd (optP c a b = [1, 4]) := ⟨by unfold optP; rw [if_pos ⟨ha, hb⟩]; rw [if_neg (by omega), if_neg (by omega), if_pos ⟨hw, by omega⟩]; unfold sgn; rw [if_pos hy]⟩
  have hk := chk_okc (isB_chk ha)
  have k1 := hk.W1
  have k2 := hk.W2
  clear hk
  have hia := inn ha
  have x0a := hia.x0
  have x2a := hia.x2
  have y0a := hia.y0
  have y2a := hia.y2
  have n0a := hia.n0
  have n1a := hia.n1
  clear hia
  have hib := inn hb
  have x0b := hib.x0
  have x2b := hib.x2
  have y0b := hib.y0
  have y2b := hib.y2
  have n0b := hib.n0
  have n1b := hib.n1
  clear hib
  have he0 : (a == b) = false := by rw [beq_eq_false_iff_ne]; rintro rfl; omega
  obtain ⟨ax, HAX⟩ : ∃ z, Hd (a % c.W = z) := ⟨_, ⟨rfl⟩⟩
  obtain ⟨bx, HBX⟩ : ∃ z, Hd (b % c.W = z) := ⟨_, ⟨rfl⟩⟩
  obtain ⟨ay, HAY⟩ : ∃ z, Hd (a / c.W = z) := ⟨_, ⟨rfl⟩⟩
  obtain ⟨bY, HBY⟩ : ∃ z, Hd (b / c.W = z) := ⟨_, ⟨rfl⟩⟩
  have HA := Hd.mk ha
  have HB := Hd.mk hb
  have Hw := Hd.mk hw
  clear hw
  clear ha hb
  rw [HAX.out] at x0a x2a hx
  rw [HBX.out] at x0b x2b hx
  rw [HAY.out] at y0a y2a hy
  rw [HBY.out] at y0b y2b hy
  go_enter Try.func61, Try.ntmps61
  go_wp2_with fail
  refine (f38_is c a true HA.out _).mono ?_
  rintro e w1 ⟨rfl, hb1⟩
  have S1 := keepS hb1 (s0 c w)
  clear hb1
  go_wp2_with fail
  refine (f38_is c b true HB.out _).mono ?_
  rintro e w2 ⟨rfl, hb2⟩
  have S2 := keepS hb2 S1
  clear hb2
  clear S1
  go_wp2_with fail
  have HS3 := Hd.mk S2
  clear S2
  go_region_held3 (fun W => W.cell? ⟨w.heap.size, 0, none⟩ = some (.int .i64 c.W) ∧ W.cell? ⟨w.heap.size, 1, none⟩ = some (.int .i64 c.H) ∧ W.cell? ⟨w.heap.size, 2, none⟩ = some (.int .i64 c.L) ∧ W.cell? ⟨w.heap.size, 3, none⟩ = some (.int .i64 c.D) ∧ W.cell? ⟨w.heap.size, 4, none⟩ = some (.int .i64 c.R) ∧ W.cell? ⟨w.heap.size, 5, none⟩ = some (.int .i64 c.I) ∧ W.cell? ⟨w.heap.size, 6, none⟩ = some (.int .i64 c.B) ∧ W.cell? ⟨w.heap.size, 7, none⟩ = some (.bool c.ws) ∧ W.cell? ⟨w.heap.size, 8, none⟩ = some (.bool c.cs) ∧ w.heap.size < W.heap.size ∧ Below w.heap.size w W) (first | exact dS HS3.out | exact keepS (by assumption) (by assumption))
    (first | (go_at_call 39; (with_reducible refine (f39_nm c b bx HBX.out n0b n1b k1 k2 _).mono ?_); rintro e wq ⟨rfl, hbq⟩) | (go_at_call 39; (with_reducible refine (f39_nm c a ax HAX.out n0a n1a k1 k2 _).mono ?_); rintro e wq ⟨rfl, hbq⟩))
  rename_i S3
  clear HS3
  go_wp2_with fail
  have HS4 := Hd.mk S3
  clear S3
  go_region_held3 (fun W => W.cell? ⟨w.heap.size, 0, none⟩ = some (.int .i64 c.W) ∧ W.cell? ⟨w.heap.size, 1, none⟩ = some (.int .i64 c.H) ∧ W.cell? ⟨w.heap.size, 2, none⟩ = some (.int .i64 c.L) ∧ W.cell? ⟨w.heap.size, 3, none⟩ = some (.int .i64 c.D) ∧ W.cell? ⟨w.heap.size, 4, none⟩ = some (.int .i64 c.R) ∧ W.cell? ⟨w.heap.size, 5, none⟩ = some (.int .i64 c.I) ∧ W.cell? ⟨w.heap.size, 6, none⟩ = some (.int .i64 c.B) ∧ W.cell? ⟨w.heap.size, 7, none⟩ = some (.bool c.ws) ∧ W.cell? ⟨w.heap.size, 8, none⟩ = some (.bool c.cs) ∧ w.heap.size < W.heap.size ∧ Below w.heap.size w W) (first | exact dS HS4.out | exact keepS (by assumption) (by assumption))
    (first | (go_at_call 40; (with_reducible refine (f40_nm c b bY HBY.out n0b n1b k1 k2 _).mono ?_); rintro e wq ⟨rfl, hbq⟩) | (go_at_call 40; (with_reducible refine (f40_nm c a ay HAY.out n0a n1a k1 k2 _).mono ?_); rintro e wq ⟨rfl, hbq⟩))
  rename_i S4
  clear HS4
  have hz := (sB S4).size
  have hg := S4.2.2.2.2.2.2.2.2.2.1
  have hw' := Hw.out
  go_wp2_with (first | (at_builtin; refine wpList_app1 rfl (.tmp 43) (.tmp 44) rfl (w.heap.size + 1) _ _ rfl _ rfl 1 (Row.alloc (Row.nil_ wq (w.heap.size + 1)) _) (by simp) (by simp) (by simp; omega) ?_; intro v0 W0 hr0 hg0; have T0 := keepG hg0 (Row.alloc (Row.nil_ wq (w.heap.size + 1)) _) (by omega) (by omega) (allocS _ S4); have HR0 := Hd.mk hr0; have hgg0 := T0.2.2.2.2.2.2.2.2.2.1; clear hr0 hg0) | (at_builtin; refine wpList_app1 rfl (.tmp 61) (.tmp 62) rfl (w.heap.size + 1) _ _ rfl _ rfl 4 (Row.alloc (HR0.out) _) (by simp) (by simp) (by simp; omega) ?_; intro v1 W1 hr1 hg1; have T1 := keepG hg1 (Row.alloc (HR0.out) _) (by omega) (by omega) (allocS _ T0); have HR1 := Hd.mk hr1; have hgg1 := T1.2.2.2.2.2.2.2.2.2.1; clear hr1 hg1))
  go_ret
  exact ⟨_, rfl, by rw [HX.out]; exact HR1.out.mono (by omega), sB T1⟩

theorem f61_any (c : Cfg) (a b : Int) (w : World) :
    Calls Try.prog 61 #[cv c, .int .i64 a, .int .i64 b] w fun e w' => ∃ v, e = .returned v ∧ Row w' w.heap.size v (optP c a b) ∧ Below w.heap.size w w' := by
  rcases ha : isB c a with _ | _
  · exact f61_na c a b ha w
  · rcases hb : isB c b with _ | _
    · exact f61_nb c a b ha hb w
    · by_cases he : a = b
      · exact f61_eq c a b ha hb he w
      · rcases (by omega : b % c.W < a % c.W ∨ b % c.W = a % c.W ∨ a % c.W < b % c.W) with h | h | h
        · exact f61_w c a b ha hb h w
        · rcases (by omega : b / c.W < a / c.W ∨ b / c.W = a / c.W ∨ a / c.W < b / c.W) with hy | hy | hy
          · exact f61_u c a b ha hb h hy w
          · exact absurd (same_node ha hb h.symm hy.symm) he
          · exact f61_n c a b ha hb h hy w
        · rcases hw : c.ws with _ | _
          · exact f61_x c a b ha hb h hw w
          · rcases (by omega : b / c.W < a / c.W ∨ b / c.W = a / c.W ∨ a / c.W < b / c.W) with hy | hy | hy
            · exact f61_z4 c a b ha hb h hw hy w
            · exact f61_y c a b ha hb h hw hy w
            · exact f61_z3 c a b ha hb h hw hy w

end Go.Proofs.Ytnbogjiddildaaa
