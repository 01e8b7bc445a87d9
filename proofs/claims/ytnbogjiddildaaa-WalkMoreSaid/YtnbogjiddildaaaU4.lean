/- Contracts of walk.at, Way, port, Ports; of the laws' few. -/
import Derived.Test.YtnbogjiddildaaaU2
import Derived.Test.YtnbogjiddildaaaU3
import Derived.Test.YtnbogjiddildaaaT8
import Derived.WalkSpells
namespace Go.Proofs.Ytnbogjiddildaaa
open Go.RowKit
set_option linter.unusedSimpArgs false
set_option linter.unusedVariables false

set_option maxHeartbeats 1000000 in
set_option maxRecDepth 20000 in
theorem f93_in (w : World) (A : Option Addr) (cap : Nat) (xs : List Int) (k : Nat) (hm : xs.length ≤ 9223372036854775807) (hk : k < xs.length) (hr : Rd w A xs) :
    Calls Try.prog 93 #[.slice A xs.length cap, .int .i64 k] w fun e w' => e = .returned (.int .i64 (chAt xs k)) ∧ w' = w := by
  have hl : k < xs.length := by
    rcases Nat.lt_or_ge k xs.length with h | h
    · exact h
    · omega
  obtain ⟨x, hx⟩ : ∃ x, xs[k]? = some x := ⟨_, List.getElem?_eq_getElem hl⟩
  have HC : Hd (chAt xs k = x) := ⟨ch_in hx⟩
  obtain ⟨g, off, rfl, hg, hc⟩ := hr (by omega)
  have hcell := hc k x hx
  clear hc hx hr hg
  go_enter Try.func93, Try.ntmps93
  go_wp2
  go_ret
  exact ⟨ret_int HC.out.symm, rfl⟩

set_option maxHeartbeats 1000000 in
set_option maxRecDepth 20000 in
theorem f93_out (w : World) (A : Option Addr) (cap : Nat) (xs : List Int) (k : Nat) (hm : xs.length ≤ 9223372036854775807) (hk : xs.length ≤ k) :
    Calls Try.prog 93 #[.slice A xs.length cap, .int .i64 k] w fun e w' => e = .returned (.int .i64 (chAt xs k)) ∧ w' = w := by
  have HC : Hd (chAt xs k = 0) := ⟨ch_out hk⟩
  go_enter Try.func93, Try.ntmps93
  go_wp2
  go_ret
  exact ⟨ret_int HC.out.symm, rfl⟩

theorem f93_any (w : World) (A : Option Addr) (cap : Nat) (xs : List Int) (k : Nat) (hm : xs.length ≤ 9223372036854775807) (hr : Rd w A xs) : Calls Try.prog 93 #[.slice A xs.length cap, .int .i64 k] w fun e w' => e = .returned (.int .i64 (chAt xs k)) ∧ w' = w := by
  rcases Nat.lt_or_ge k xs.length with h | h
  · exact f93_in w A cap xs k hm h hr
  · exact f93_out w A cap xs k hm h
/-- The same at a world that is told by the state. -/
theorem f93_S {c : Cfg} {g : Nat} {w W : World} {Q : Prop} (H : (W.cell? ⟨g, 0, none⟩ = some (.int .i64 c.W) ∧ W.cell? ⟨g, 1, none⟩ = some (.int .i64 c.H) ∧ W.cell? ⟨g, 2, none⟩ = some (.int .i64 c.L) ∧ W.cell? ⟨g, 3, none⟩ = some (.int .i64 c.D) ∧ W.cell? ⟨g, 4, none⟩ = some (.int .i64 c.R) ∧ W.cell? ⟨g, 5, none⟩ = some (.int .i64 c.I) ∧ W.cell? ⟨g, 6, none⟩ = some (.int .i64 c.B) ∧ W.cell? ⟨g, 7, none⟩ = some (.bool c.ws) ∧ W.cell? ⟨g, 8, none⟩ = some (.bool c.cs) ∧ g < W.heap.size ∧ Below w.heap.size w W) ∧ Q) (A : Option Addr) (cap : Nat) (xs : List Int) (k : Nat) (x : Int) (hx : chAt xs k = x) (hm : xs.length ≤ 9223372036854775807) (hr : Rd w A xs) :
    Calls Try.prog 93 #[.slice A xs.length cap, .int .i64 k] W fun e w' => e = .returned (.int .i64 x) ∧ Below W.heap.size W w' := by
  subst hx
  refine (f93_any W A cap xs k hm (hr.below (sB (c := c) H.1))).mono ?_
  rintro e w' ⟨rfl, rfl⟩
  exact ⟨rfl, Below.refl _ _⟩

structure RelWay (c : Cfg) (a b : Int) (ch : List Int) (w : World) (i v : Value) (W : World) (pre : List Int) (k : Nat) (m : Int) : Prop where
  vm : isB c m = true
  kl : pre.length = k + 1
  way : Hd (wayP c a b ch = pre ++ wayGo c b ch (farP c m b).toNat m k)
  row : Row W (w.heap.size + 1) v pre
  hi : i = .int .i64 m
  s : W.cell? ⟨w.heap.size, 0, none⟩ = some (.int .i64 c.W) ∧ W.cell? ⟨w.heap.size, 1, none⟩ = some (.int .i64 c.H) ∧ W.cell? ⟨w.heap.size, 2, none⟩ = some (.int .i64 c.L) ∧ W.cell? ⟨w.heap.size, 3, none⟩ = some (.int .i64 c.D) ∧ W.cell? ⟨w.heap.size, 4, none⟩ = some (.int .i64 c.R) ∧ W.cell? ⟨w.heap.size, 5, none⟩ = some (.int .i64 c.I) ∧ W.cell? ⟨w.heap.size, 6, none⟩ = some (.int .i64 c.B) ∧ W.cell? ⟨w.heap.size, 7, none⟩ = some (.bool c.ws) ∧ W.cell? ⟨w.heap.size, 8, none⟩ = some (.bool c.cs) ∧ w.heap.size < W.heap.size ∧ Below w.heap.size w W

theorem keepSR {c : Cfg} {g base : Nat} {v : Value} {xs : List Int} {w W W' : World} (hb : Below W.heap.size W W') (H : (W.cell? ⟨g, 0, none⟩ = some (.int .i64 c.W) ∧ W.cell? ⟨g, 1, none⟩ = some (.int .i64 c.H) ∧ W.cell? ⟨g, 2, none⟩ = some (.int .i64 c.L) ∧ W.cell? ⟨g, 3, none⟩ = some (.int .i64 c.D) ∧ W.cell? ⟨g, 4, none⟩ = some (.int .i64 c.R) ∧ W.cell? ⟨g, 5, none⟩ = some (.int .i64 c.I) ∧ W.cell? ⟨g, 6, none⟩ = some (.int .i64 c.B) ∧ W.cell? ⟨g, 7, none⟩ = some (.bool c.ws) ∧ W.cell? ⟨g, 8, none⟩ = some (.bool c.cs) ∧ g < W.heap.size ∧ Below w.heap.size w W) ∧ Row W base v xs) : (W'.cell? ⟨g, 0, none⟩ = some (.int .i64 c.W) ∧ W'.cell? ⟨g, 1, none⟩ = some (.int .i64 c.H) ∧ W'.cell? ⟨g, 2, none⟩ = some (.int .i64 c.L) ∧ W'.cell? ⟨g, 3, none⟩ = some (.int .i64 c.D) ∧ W'.cell? ⟨g, 4, none⟩ = some (.int .i64 c.R) ∧ W'.cell? ⟨g, 5, none⟩ = some (.int .i64 c.I) ∧ W'.cell? ⟨g, 6, none⟩ = some (.int .i64 c.B) ∧ W'.cell? ⟨g, 7, none⟩ = some (.bool c.ws) ∧ W'.cell? ⟨g, 8, none⟩ = some (.bool c.cs) ∧ g < W'.heap.size ∧ Below w.heap.size w W') ∧ Row W' base v xs := ⟨keepS hb H.1, Row.below H.2 hb⟩

set_option maxHeartbeats 1000000 in
set_option maxRecDepth 20000 in
theorem f75_na (w : World) (c : Cfg) (a b : Int) (A : Option Addr) (cap : Nat) (ch : List Int) (hm : ch.length ≤ 9223372036854775807) (hch : ∀ x ∈ ch, -9223372036854775808 ≤ x ∧ x ≤ 9223372036854775807) (hr : Rd w A ch) (h : isB c a = false) :
    Calls Try.prog 75 #[cv c, .int .i64 a, .int .i64 b, .slice A ch.length cap] w fun e w' => ∃ v, e = .returned v ∧ Row w' w.heap.size v (wayP c a b ch) ∧ Below w.heap.size w w' := by
  have HA := Hd.mk h
  go_enter Try.func75, Try.ntmps75
  go_wp2_with fail
  refine (f42_is c a false HA.out _).mono ?_
  rintro e w1 ⟨rfl, hb1⟩
  have S1 := keepS hb1 (s0 c w)
  clear hb1
  go_wp2
  go_ret
  exact ⟨_, rfl, by rw [way_no (by rw [HA.out]; simp)]; exact Row.nil_ _ _, sB S1⟩

set_option maxHeartbeats 1000000 in
set_option maxRecDepth 20000 in
theorem f75_nb (w : World) (c : Cfg) (a b : Int) (A : Option Addr) (cap : Nat) (ch : List Int) (hm : ch.length ≤ 9223372036854775807) (hch : ∀ x ∈ ch, -9223372036854775808 ≤ x ∧ x ≤ 9223372036854775807) (hr : Rd w A ch) (ha : isB c a = true) (h : isB c b = false) :
    Calls Try.prog 75 #[cv c, .int .i64 a, .int .i64 b, .slice A ch.length cap] w fun e w' => ∃ v, e = .returned v ∧ Row w' w.heap.size v (wayP c a b ch) ∧ Below w.heap.size w w' := by
  have HA := Hd.mk ha
  have HB := Hd.mk h
  go_enter Try.func75, Try.ntmps75
  go_wp2_with fail
  refine (f42_is c a true HA.out _).mono ?_
  rintro e w1 ⟨rfl, hb1⟩
  have S1 := keepS hb1 (s0 c w)
  clear hb1
  go_wp2_with fail
  refine (f42_is c b false HB.out _).mono ?_
  rintro e w2 ⟨rfl, hb2⟩
  have S2 := keepS hb2 S1
  clear hb2 S1
  go_wp2
  go_ret
  exact ⟨_, rfl, by rw [way_no (by rw [HB.out]; simp)]; exact Row.nil_ _ _, sB S2⟩

set_option maxHeartbeats 1000000 in
set_option maxRecDepth 20000 in
theorem f75_in (w : World) (c : Cfg) (a b : Int) (A : Option Addr) (cap : Nat) (ch : List Int) (hm : ch.length ≤ 9223372036854775807) (hch : ∀ x ∈ ch, -9223372036854775808 ≤ x ∧ x ≤ 9223372036854775807) (hr : Rd w A ch) (ha : isB c a = true) (hb : isB c b = true) :
    Calls Try.prog 75 #[cv c, .int .i64 a, .int .i64 b, .slice A ch.length cap] w fun e w' => ∃ v, e = .returned v ∧ Row w' w.heap.size v (wayP c a b ch) ∧ Below w.heap.size w w' := by
  have HA := Hd.mk ha
  have HB := Hd.mk hb
  have HR := Hd.mk hr
  have HCH := Hd.mk hch
  have hwl := way_len (ch := ch) ha hb
  have hfb := far_bd ha hb
  have HWL : Hd ((wayP c a b ch).length ≤ 127) := ⟨by omega⟩
  clear ha hb hr hch hwl hfb
  go_enter Try.func75, Try.ntmps75
  go_wp2_with fail
  refine (f42_is c a true HA.out _).mono ?_
  rintro e w1 ⟨rfl, hb1⟩
  have S1 := keepS hb1 (s0 c w)
  clear hb1
  go_wp2_with fail
  refine (f42_is c b true HB.out _).mono ?_
  rintro e w2 ⟨rfl, hb2⟩
  have S2 := allocS (.cells #[.int .i64 a] 3) (keepS hb2 S1)
  have hz2 := (keepS hb2 S1).2.2.2.2.2.2.2.2.2.1
  have R2 := Hd.mk (row_lit1 w2 (w.heap.size + 1) a hz2)
  clear hb2 S1
  go_wp2_with fail
  go_loopw [1, 9] (fun i v W => ∃ pre k m, RelWay c a b ch w i v W pre k m) (fun i _ _ => (farP c (intOf i) b).toNat)
  case atStart => exact ⟨[a], 0, a, HA.out, rfl, ⟨way_yes HA.out HB.out⟩, R2.out, rfl, S2⟩
  case round =>
    obtain ⟨pre, k, m, hm1, hkl, HWAY, hrow, rfl, hS⟩ := hrel
    obtain ⟨A', cap', rfl, hcap', -⟩ := hrow.rd
    have HKL := Hd.mk hkl
    rw [hkl] at hrow hcap'
    rw [hkl]
    have HM := Hd.mk hm1
    have HROW := Hd.mk hrow
    have hk127 : k ≤ 127 := by have h1 := HWAY.out; have h2 := HWL.out; rw [h1, List.length_append] at h2; omega
    clear hrow hkl hm1 S2 R2
    by_cases he : m = b
    · subst he
      have HE : Hd (wayP c a m ch = pre) := ⟨by have h := HWAY.out; rw [(far_zero HM.out HM.out).2 rfl] at h; simpa [wayGo] using h⟩
      go_wp2
      go_ret
      exact ⟨_, rfl, by rw [HE.out]; exact HROW.out.mono (by omega), sB hS⟩
    · obtain ⟨x, HX⟩ : ∃ x, Hd (chAt ch k = x) := ⟨_, ⟨rfl⟩⟩
      have hxb := ch_bd HCH.out k
      rw [HX.out] at hxb
      obtain ⟨x0, x1⟩ := hxb
      obtain ⟨p, m2, hch, hgo⟩ := go_any x HM.out HB.out he
      have HCHO := Hd.mk hch
      have HGO := Hd.mk hgo
      have HST := Hd.mk hgo.st
      have HWS := Hd.mk (way_step (chs := ch) (i := k) HM.out HB.out (by rw [HX.out]; exact hch) hgo)
      have HNE := Hd.mk he
      have e1 : IntKind.i64.wrap (k : Int) = (k : Int) := IntWalk.i64_in _ (by omega)
      have hmb : (m != b) = true := bne_iff_ne.2 he
      clear hch hgo
      go_wp2_with fail
      have HS4 := Hd.mk (And.intro hS HROW.out)
      clear hS HROW
      go_region_held3 (fun W => (W.cell? ⟨w.heap.size, 0, none⟩ = some (.int .i64 c.W) ∧ W.cell? ⟨w.heap.size, 1, none⟩ = some (.int .i64 c.H) ∧ W.cell? ⟨w.heap.size, 2, none⟩ = some (.int .i64 c.L) ∧ W.cell? ⟨w.heap.size, 3, none⟩ = some (.int .i64 c.D) ∧ W.cell? ⟨w.heap.size, 4, none⟩ = some (.int .i64 c.R) ∧ W.cell? ⟨w.heap.size, 5, none⟩ = some (.int .i64 c.I) ∧ W.cell? ⟨w.heap.size, 6, none⟩ = some (.int .i64 c.B) ∧ W.cell? ⟨w.heap.size, 7, none⟩ = some (.bool c.ws) ∧ W.cell? ⟨w.heap.size, 8, none⟩ = some (.bool c.cs) ∧ w.heap.size < W.heap.size ∧ Below w.heap.size w W) ∧ Row W (w.heap.size + 1) (.slice A' (k + 1) cap') pre) (first | exact ⟨dS HS4.out.1, HS4.out.2⟩ | exact keepSR (by assumption) (by assumption))
        (first | (go_at_call 58; (with_reducible refine (f58_is c m b x x0 x1 p true HCHO.out _).mono ?_); rintro e wq ⟨rfl, hbq⟩) | (go_at_call 93; (with_reducible refine (f93_S (c := c) (g := w.heap.size) (w := w) (by assumption) A cap ch k x HX.out hm HR.out).mono ?_); rintro e wq ⟨rfl, hbq⟩))
      rename_i T4
      clear HS4 e1
      have S4 := T4.1
      have HR4 := Hd.mk T4.2
      clear T4
      go_wp2_with fail
      refine (f34_is c m p m2 true HST.out _).mono ?_
      rintro e w5 ⟨rfl, hb5⟩
      have S5 := keepS hb5 S4
      have HR5 := Hd.mk (HR4.out.below hb5)
      have hz5 := S5.2.2.2.2.2.2.2.2.2.1
      clear hb5 S4 HR4
      go_wp2_with (at_builtin; refine wpList_app1 rfl (.tmp 46) (.tmp 48) rfl (w.heap.size + 1) _ _ rfl _ rfl m2 (HR5.out.alloc _) (by simp) (by rw [HKL.out]; omega) (by simp; omega) ?_; intro v' W2 hr2 hg2)
      have S6 := keepG hg2 (HR5.out.alloc _) (by omega) (by omega) (allocS (.cells #[.int .i64 m2] 3) S5)
      have HR6 := Hd.mk hr2
      clear hr2 hg2 S5 HR5
      go_roundw
      case rel => exact ⟨pre ++ [m2], k + 1, m2, (step_of HST.out).vm, by rw [List.length_append, HKL.out]; rfl, ⟨by rw [HWAY.out, HWS.out, List.append_assoc]; rfl⟩, HR6.out, rfl, S6⟩
      case measure =>
        have h0 := far_bd (step_of HST.out).vm HB.out
        have h1 := HGO.out.far
        have h2 := (far_bd HM.out HB.out).1
        simp only [intOf]; omega

theorem f75_any (w : World) (c : Cfg) (a b : Int) (A : Option Addr) (cap : Nat) (ch : List Int) (hm : ch.length ≤ 9223372036854775807) (hch : ∀ x ∈ ch, -9223372036854775808 ≤ x ∧ x ≤ 9223372036854775807) (hr : Rd w A ch) : Calls Try.prog 75 #[cv c, .int .i64 a, .int .i64 b, .slice A ch.length cap] w fun e w' => ∃ v, e = .returned v ∧ Row w' w.heap.size v (wayP c a b ch) ∧ Below w.heap.size w w' := by
  rcases ha : isB c a with _ | _
  · exact f75_na w c a b A cap ch hm hch hr ha
  · rcases hb : isB c b with _ | _
    · exact f75_nb w c a b A cap ch hm hch hr ha hb
    · exact f75_in w c a b A cap ch hm hch hr ha hb

set_option maxHeartbeats 1000000 in
set_option maxRecDepth 20000 in
theorem f74_some (a : Addr) (n cap : Nat) (h : n ≤ cap) (hc : cap ≤ 9223372036854775807) (w : World) :
    Calls Try.prog 74 #[.slice (some a) n cap] w fun e w' => e = .returned (.slice (some a) (min n 20) cap) ∧ w = w' := by
  rcases Nat.lt_or_ge 20 n with hn | hn
  · have hmn : min n 20 = 20 := by omega
    have HMN := Hd.mk hmn
    clear hmn
    go_enter Try.func74, Try.ntmps74
    go_wp2
    go_ret
    exact ⟨by rw [HMN.out]; rfl, rfl⟩
  · have hmn : min n 20 = n := by omega
    have HMN := Hd.mk hmn
    clear hmn
    go_enter Try.func74, Try.ntmps74
    go_wp2
    go_ret
    exact ⟨by rw [HMN.out]; rfl, rfl⟩

set_option maxHeartbeats 1000000 in
set_option maxRecDepth 20000 in
theorem f74_none  (w : World) :
    Calls Try.prog 74 #[.slice none 0 0] w fun e w' => e = .returned (.slice none 0 0) ∧ w = w' := by
  go_enter Try.func74, Try.ntmps74
  go_wp2
  go_ret
  exact ⟨rfl, rfl⟩

def fewP (l : List Int) : List Int := l.take 20
theorem rd_take {W : World} {A : Option Addr} {xs : List Int} (n : Nat) (h : Rd W A xs) : Rd W A (xs.take n) := fun hn => by
  have hn' : 0 < xs.length := by rw [List.length_take] at hn; omega
  obtain ⟨g, off, e, hg, hc⟩ := h hn'
  refine ⟨g, off, e, hg, fun j u hu => hc j u ?_⟩
  rw [List.getElem?_take] at hu
  split at hu
  · exact hu
  · cases hu
theorem f74_any (A : Option Addr) (cap : Nat) (xs : List Int) (h : xs.length ≤ cap) (hc : cap ≤ 9223372036854775807) (hA : A = none → cap = 0) (w : World) : Calls Try.prog 74 #[.slice A xs.length cap] w fun e w' => e = .returned (.slice A (fewP xs).length cap) ∧ w = w' := by
  have e : (fewP xs).length = min xs.length 20 := by unfold fewP; rw [List.length_take]; omega
  rw [e]
  rcases A with _ | a
  · obtain rfl := hA rfl
    have h0 : xs.length = 0 := by omega
    rw [h0]
    exact f74_none w
  · exact f74_some a xs.length cap h hc w

end Go.Proofs.Ytnbogjiddildaaa
