/- Contracts of walk.port, Ports, Channels. -/
import Derived.Test.YtnbogjiddildaaaU4
namespace Go.Proofs.Ytnbogjiddildaaa
open Go.RowKit
set_option linter.unusedSimpArgs false
set_option linter.unusedVariables false

structure RelPort (c : Cfg) (m p : Int) (A : Option Addr) (w : World) (i : Value) (W : World) (j : Nat) : Prop where
  jl : j ≤ (portsP c m).length
  hi : i = .int .i64 (j : Int)
  rd : Rd W A (portsP c m)
  no : Hd (∀ i, i < j → (portsP c m)[i]? ≠ some p)
  s : W.cell? ⟨w.heap.size, 0, none⟩ = some (.int .i64 c.W) ∧ W.cell? ⟨w.heap.size, 1, none⟩ = some (.int .i64 c.H) ∧ W.cell? ⟨w.heap.size, 2, none⟩ = some (.int .i64 c.L) ∧ W.cell? ⟨w.heap.size, 3, none⟩ = some (.int .i64 c.D) ∧ W.cell? ⟨w.heap.size, 4, none⟩ = some (.int .i64 c.R) ∧ W.cell? ⟨w.heap.size, 5, none⟩ = some (.int .i64 c.I) ∧ W.cell? ⟨w.heap.size, 6, none⟩ = some (.int .i64 c.B) ∧ W.cell? ⟨w.heap.size, 7, none⟩ = some (.bool c.ws) ∧ W.cell? ⟨w.heap.size, 8, none⟩ = some (.bool c.cs) ∧ w.heap.size < W.heap.size ∧ Below w.heap.size w W

set_option maxHeartbeats 1000000 in
set_option maxRecDepth 20000 in
theorem f94_adj (c : Cfg) (m n p : Int) (h : besideP c m p = (n, true)) (p1 : 1 ≤ p) (p4 : p ≤ 4) (w : World) :
    Calls Try.prog 94 #[cv c, .int .i64 m, .int .i64 n] w fun e w' => e = .returned (.int .i64 p) ∧ Below w.heap.size w w' := by
  have HST := Hd.mk h
  have hpm := ports_mem h p1 p4
  obtain ⟨ip, hip⟩ := List.getElem?_of_mem hpm
  have HIP := Hd.mk hip
  have hpl : (portsP c m).length ≤ 4 := plP_len c m 4
  clear h hpm hip
  go_enter Try.func94, Try.ntmps94
  go_wp2_with fail
  refine (f29_any c m _).mono ?_
  rintro e w1 ⟨v, rfl, hr, hb1⟩
  obtain ⟨A, cap, rfl, hcap, hrd⟩ := hr.rd
  have S1 := keepS hb1 (s0 c w)
  have R1 := Hd.mk hrd
  clear hb1 hr hrd
  go_wp2_with fail
  go_loopw [15] (fun i W => ∃ j : Nat, RelPort c m p A w i W j) (fun i _ => (portsP c m).length - (intOf i).toNat)
  case atStart => exact ⟨0, by omega, rfl, R1.out, ⟨fun i hi => by omega⟩, S1⟩
  case round =>
    obtain ⟨j, hj, rfl, hrd, HNO, hS⟩ := hrel
    have RD := Hd.mk hrd
    clear hrd R1 S1
    by_cases hlt : j < (portsP c m).length
    · obtain ⟨q, hq⟩ : ∃ q, (portsP c m)[j]? = some q := ⟨_, List.getElem?_eq_getElem hlt⟩
      obtain ⟨q1, q4, nq, hnq⟩ := ports_is (List.mem_of_getElem? hq)
      obtain ⟨g, off, rfl, hg, hc⟩ := RD.out (by omega)
      have hx := hc j q hq
      have HQ := Hd.mk hq
      have i2 : (j : Int) < ((portsP c m).length : Int) := by omega
      clear hc hg hq
      by_cases hqp : q = p
      · subst hqp
        go_wp2_with fail
        refine (f34_is c m q n true HST.out _).mono ?_
        rintro e w2 ⟨rfl, hb2⟩
        have S2 := keepS hb2 hS
        clear hb2 hS hx
        go_wp2
        go_ret
        exact ⟨rfl, sB S2⟩
      · have HNQ := Hd.mk hnq
        have hne : (nq == n) = false := by rw [beq_eq_false_iff_ne]; exact fun h => hqp (port_one HST.out (by rw [← h]; exact hnq) p1 q1)
        have HQP := Hd.mk hqp
        clear hqp hnq
        go_wp2_with fail
        refine (f34_is c m q nq true HNQ.out _).mono ?_
        rintro e w2 ⟨rfl, hb2⟩
        have S2 := keepS hb2 hS
        have R2 := Hd.mk (RD.out.below hb2)
        clear hb2 hS hx RD
        go_wp2
        go_roundw
        case rel => exact ⟨j + 1, by omega, by go_num, R2.out, ⟨fun i hi => by
          rcases Nat.lt_or_ge i j with h | h
          · exact HNO.out i h
          · obtain rfl : i = j := by omega
            rw [HQ.out]; exact fun h => HQP.out (by injection h)⟩, S2⟩
        case measure => simp [intOf]; omega
    · exfalso
      rcases Nat.lt_or_ge ip j with h | h
      · exact HNO.out ip h HIP.out
      · have := HIP.out
        rw [List.getElem?_eq_none (by omega)] at this; cases this

theorem keepSXR {c : Cfg} {g q o1 o2 base : Nat} {x y : Int} {v : Value} {xs : List Int} {w W W' : World} (hb : Below W.heap.size W W') (H : ((W.cell? ⟨g, 0, none⟩ = some (.int .i64 c.W) ∧ W.cell? ⟨g, 1, none⟩ = some (.int .i64 c.H) ∧ W.cell? ⟨g, 2, none⟩ = some (.int .i64 c.L) ∧ W.cell? ⟨g, 3, none⟩ = some (.int .i64 c.D) ∧ W.cell? ⟨g, 4, none⟩ = some (.int .i64 c.R) ∧ W.cell? ⟨g, 5, none⟩ = some (.int .i64 c.I) ∧ W.cell? ⟨g, 6, none⟩ = some (.int .i64 c.B) ∧ W.cell? ⟨g, 7, none⟩ = some (.bool c.ws) ∧ W.cell? ⟨g, 8, none⟩ = some (.bool c.cs) ∧ g < W.heap.size ∧ Below w.heap.size w W) ∧ (W.cell? ⟨q, o1, none⟩ = some (.int .i64 x) ∧ W.cell? ⟨q, o2, none⟩ = some (.int .i64 y) ∧ q < W.heap.size)) ∧ Row W base v xs) : ((W'.cell? ⟨g, 0, none⟩ = some (.int .i64 c.W) ∧ W'.cell? ⟨g, 1, none⟩ = some (.int .i64 c.H) ∧ W'.cell? ⟨g, 2, none⟩ = some (.int .i64 c.L) ∧ W'.cell? ⟨g, 3, none⟩ = some (.int .i64 c.D) ∧ W'.cell? ⟨g, 4, none⟩ = some (.int .i64 c.R) ∧ W'.cell? ⟨g, 5, none⟩ = some (.int .i64 c.I) ∧ W'.cell? ⟨g, 6, none⟩ = some (.int .i64 c.B) ∧ W'.cell? ⟨g, 7, none⟩ = some (.bool c.ws) ∧ W'.cell? ⟨g, 8, none⟩ = some (.bool c.cs) ∧ g < W'.heap.size ∧ Below w.heap.size w W') ∧ (W'.cell? ⟨q, o1, none⟩ = some (.int .i64 x) ∧ W'.cell? ⟨q, o2, none⟩ = some (.int .i64 y) ∧ q < W'.heap.size)) ∧ Row W' base v xs := by
  refine ⟨⟨keepS hb H.1.1, ?_, ?_, ?_⟩, Row.below H.2 hb⟩
  · rw [hb.cell (by exact H.1.2.2.2)]; exact H.1.2.1
  · rw [hb.cell (by exact H.1.2.2.2)]; exact H.1.2.2.1
  · have := hb.size; have := H.1.2.2.2; omega
structure RelPs (c : Cfg) (ps : List Int) (w : World) (v i : Value) (W : World) (k : Nat) : Prop where
  kl : k ≤ ps.length
  hi : i = .int .i64 (k : Int)
  row : Row W (w.heap.size + 1) v (ps.take k)
  s : W.cell? ⟨w.heap.size, 0, none⟩ = some (.int .i64 c.W) ∧ W.cell? ⟨w.heap.size, 1, none⟩ = some (.int .i64 c.H) ∧ W.cell? ⟨w.heap.size, 2, none⟩ = some (.int .i64 c.L) ∧ W.cell? ⟨w.heap.size, 3, none⟩ = some (.int .i64 c.D) ∧ W.cell? ⟨w.heap.size, 4, none⟩ = some (.int .i64 c.R) ∧ W.cell? ⟨w.heap.size, 5, none⟩ = some (.int .i64 c.I) ∧ W.cell? ⟨w.heap.size, 6, none⟩ = some (.int .i64 c.B) ∧ W.cell? ⟨w.heap.size, 7, none⟩ = some (.bool c.ws) ∧ W.cell? ⟨w.heap.size, 8, none⟩ = some (.bool c.cs) ∧ w.heap.size < W.heap.size ∧ Below w.heap.size w W

set_option maxHeartbeats 1000000 in
set_option maxRecDepth 20000 in
theorem f76_adj (w : World) (c : Cfg) (A : Option Addr) (cap : Nat) (ws ps : List Int) (n : Nat) (hn : ps.length = n) (hn2 : n ≤ 200) (hws : ws.length = n + 1) (ha : Adj c ws ps) (hr : Rd w A ws) :
    Calls Try.prog 76 #[cv c, .slice A (n + 1) cap] w fun e w' => ∃ v, e = .returned (.tuple #[v, .bool true]) ∧ Row w' w.heap.size v ps ∧ Below w.heap.size w w' := by
  have HR := Hd.mk hr
  have HA := Hd.mk ha
  have HN := Hd.mk hn
  have HWS := Hd.mk hws
  clear hr ha hn hws
  go_enter Try.func76, Try.ntmps76
  go_wp2_with fail
  have S1 := s0 c w
  go_loopw [6, 13] (fun v i W => ∃ k : Nat, RelPs c ps w v i W k) (fun _ i _ => n - (intOf i).toNat)
  case atStart => exact ⟨0, by omega, rfl, Row.nil_ _ _, S1⟩
  case round =>
    obtain ⟨k, hk, rfl, hrow, hS⟩ := hrel
    rw [HN.out] at hk
    have HROW := Hd.mk hrow
    clear hrow S1
    by_cases hlt : k < n
    · obtain ⟨x, hx⟩ : ∃ x, ws[k]? = some x := ⟨_, List.getElem?_eq_getElem (by have := HWS.out; omega)⟩
      obtain ⟨y, hy⟩ : ∃ x, ws[k + 1]? = some x := ⟨_, List.getElem?_eq_getElem (by have := HWS.out; omega)⟩
      obtain ⟨p, hp⟩ : ∃ x, ps[k]? = some x := ⟨_, List.getElem?_eq_getElem (by have := HN.out; omega)⟩
      obtain ⟨hst, p1, p4⟩ := HA.out.st k x y p hx hy hp
      have HST := Hd.mk hst
      have HTS : Hd (ps.take (k + 1) = ps.take k ++ [p]) := ⟨by rw [List.take_add_one, hp]; rfl⟩
      obtain ⟨q, off, rfl, hq, hc⟩ := (HR.out.below (sB hS)) (by have := HWS.out; omega)
      have hcx := hc k x hx
      have hcy := hc (k + 1) y hy
      have HS4 := Hd.mk (And.intro (And.intro hS (And.intro hcx (And.intro hcy hq))) HROW.out)
      have i0 : (0 : Int) ≤ (k : Int) := by omega
      have i1 : (k : Int) < (n : Int) + 1 := by omega
      have i1' : (k : Int) < ((n + 1 : Nat) : Int) := by omega
      have i2 : (k : Int) + 1 < (n : Int) + 1 := by omega
      have i2' : (k : Int) + 1 < ((n + 1 : Nat) : Int) := by omega
      have i3 : (0 : Int) ≤ (k : Int) + 1 := by omega
      have i4 : IntKind.i64.wrap ((k : Int) + 1) = (k : Int) + 1 := IntWalk.i64_in _ (by omega)
      have i5 : ((k : Int) + 1).toNat = k + 1 := by omega
      have hp0 : (p == 0) = false := by rw [beq_eq_false_iff_ne]; omega
      clear hc hx hy hp hcx hcy hq hS HROW hst
      go_wp2_with fail
      go_region_held3 (fun W => ((W.cell? ⟨w.heap.size, 0, none⟩ = some (.int .i64 c.W) ∧ W.cell? ⟨w.heap.size, 1, none⟩ = some (.int .i64 c.H) ∧ W.cell? ⟨w.heap.size, 2, none⟩ = some (.int .i64 c.L) ∧ W.cell? ⟨w.heap.size, 3, none⟩ = some (.int .i64 c.D) ∧ W.cell? ⟨w.heap.size, 4, none⟩ = some (.int .i64 c.R) ∧ W.cell? ⟨w.heap.size, 5, none⟩ = some (.int .i64 c.I) ∧ W.cell? ⟨w.heap.size, 6, none⟩ = some (.int .i64 c.B) ∧ W.cell? ⟨w.heap.size, 7, none⟩ = some (.bool c.ws) ∧ W.cell? ⟨w.heap.size, 8, none⟩ = some (.bool c.cs) ∧ w.heap.size < W.heap.size ∧ Below w.heap.size w W) ∧ (W.cell? ⟨q, off + k, none⟩ = some (.int .i64 x) ∧ W.cell? ⟨q, off + (k + 1), none⟩ = some (.int .i64 y) ∧ q < W.heap.size)) ∧ Row W (w.heap.size + 1) u6 (ps.take k)) (first | exact ⟨⟨dS HS4.out.1.1, HS4.out.1.2⟩, HS4.out.2⟩ | exact keepSXR (by assumption) (by assumption))
        (first | (go_at_call 94; (with_reducible refine (f94_adj c x y p HST.out p1 p4 _).mono ?_); rintro e wq ⟨rfl, hbq⟩))
      rename_i T4
      clear HS4 i4 i5
      have S4 := T4.1.1
      have HR4 := Hd.mk T4.2
      have hz4 := S4.2.2.2.2.2.2.2.2.2.1
      have hkl : (ps.take k).length ≤ 200 := by rw [List.length_take]; omega
      clear T4
      go_wp2_with (at_builtin; refine wpList_app1 rfl (.tmp 29) (.tmp 31) rfl (w.heap.size + 1) _ _ rfl _ rfl p (HR4.out.alloc _) (by simp) (by omega) (by simp; omega) ?_; intro v' W2 hr2 hg2)
      have S6 := keepG hg2 (HR4.out.alloc _) (by omega) (by omega) (allocS (.cells #[.int .i64 p] 3) S4)
      have HR6 := Hd.mk hr2
      clear hr2 hg2 S4 HR4
      go_roundw
      case rel => exact ⟨k + 1, by have := HN.out; omega, by go_num, by rw [HTS.out]; exact HR6.out, S6⟩
      case measure => simp [intOf]; omega
    · have HK : Hd (ps.take k = ps) := ⟨List.take_of_length_le (by have := HN.out; omega)⟩
      go_wp2
      go_ret2
      exact ⟨_, rfl, by have h := HROW.out.mono (base' := w.heap.size) (by omega); rw [HK.out] at h; exact h, sB hS⟩

end Go.Proofs.Ytnbogjiddildaaa
