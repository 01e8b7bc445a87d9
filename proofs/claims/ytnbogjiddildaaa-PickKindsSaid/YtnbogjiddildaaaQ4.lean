/- Contracts of pick.Round and of its reference. -/
import Derived.Test.YtnbogjiddildaaaQ1
import Derived.Test.YtnbogjiddildaaaQ3
import Derived.Deep.OwnRows
namespace Go.Proofs.Ytnbogjiddildaaa
open Go.RowKit
set_option linter.unusedSimpArgs false
set_option linter.unusedVariables false

theorem info4 : (Try.prog.info? 4).map (fun i => (i.zero, i.size, i.bytes)) = some (some (.bool false), 1, 1) := by kernel_rfl
theorem f87_is (n m a : Int) (h : rndI n % m = a) (n0 : -9223372036854775808 ≤ n) (n1 : n ≤ 9223372036854775807) (m1 : 1 ≤ m) (m2 : m ≤ 400000) (w : World) : Calls Try.prog 87 #[.int .i64 n, .int .i64 m] w fun e w' => e = .returned (.int .i64 a) ∧ w = w' := by
  subst h; exact f87_any n m n0 n1 m1 m2 w
theorem Row.setOther {W : World} {base g j : Nat} {v u : Value} {xs : List Int} (h : Row W base v xs) (hg : g < base) : Row (W.setCell ⟨g, j, none⟩ u) base v xs :=
  World.ownsRow.kept h (row := some g) ⟨rfl, rfl, rfl, by simp, fun k _ hk => heap_setCell_other W ⟨g, j, none⟩ k u (fun e => hk (by simp [e]))⟩ (.inr fun e => by have := (h.lt g e).1; omega)
theorem rowIs_below {W W' : World} {b n : Nat} {t : TypeId} {f : Nat → Value} (h : W.rowIs b t n f) (hb : Below W.heap.size W W') : W'.rowIs b t n f := h.of_block (hb.block b h.lt)
theorem rowIs_grown {W W' : World} {b n base : Nat} {t : TypeId} {f : Nat → Value} {v : Value} {xs : List Int} (h : W.rowIs b t n f) (hr : Row W base v xs) (hb : b < base) (hg : W.grownBy W' v.ownBlock) : W'.rowIs b t n f :=
  h.of_block (hg.block b h.lt (fun e => by have := (hr.lt b e.symm).1; omega))
theorem mod_c (c N : Nat) (x : Int) (y : Nat) (h : x = (y : Int)) : Value.int .i64 (((c : Int) + x) % (N : Int)) = .int .i64 (((c + y) % N : Nat) : Int) := by
  subst h; rw [Int.natCast_emod]; rfl
theorem mod_n (c N : Nat) : (((c : Int) + 1) % (N : Int)).toNat = (c + 1) % N := by
  rw [show ((c : Int) + 1) % (N : Int) = (((c + 1) % N : Nat) : Int) from by rw [Int.natCast_emod]; rfl]; rfl
theorem new_cell {W : World} {n : Nat} {v : Value} {t : TypeId} (h : n = W.heap.size) : (W.alloc (.cells #[v] t)).cell? ⟨n, 0, none⟩ = some v := by subst h; simp
def lenOf : Value → Nat
  | .slice _ n _ => n
  | _ => 0
theorem rounds_is {c : Cfg} {f b : Int} {N a0 b0 : Nat} (hN : countP c = (N : Int)) (ha : rndI f % (N : Int) = (a0 : Int)) (hb : rndI b % (N : Int) = (b0 : Int)) : roundsP c f b = ((runR N (1 + b0) a0 N).l).map Int.ofNat := by
  unfold roundsP roundL; rw [hN, ha, hb]; rfl
theorem rounds_no {c : Cfg} {f b : Int} (hN : countP c = 0) : roundsP c f b = [] := by
  unfold roundsP roundL; rw [hN]; rfl

structure RelR (N s a0 : Nat) (w : World) (g : Nat) (a v : Value) (W : World) (k : Nat) : Prop where
  kn : k ≤ N
  ha : a = .int .i64 ((runR N s a0 k).pos : Nat)
  row : Row W (g + 1) v ((runR N s a0 k).l.map Int.ofNat)
  had : W.rowIs g 4 N (fun j => .bool ((runR N s a0 k).had j))
  b : Below w.heap.size w W

set_option maxHeartbeats 1000000 in
set_option maxRecDepth 20000 in
theorem f62_no (c : Cfg) (f b : Int) (f0 : -9223372036854775808 ≤ f) (f1 : f ≤ 9223372036854775807) (b0' : -9223372036854775808 ≤ b) (b1 : b ≤ 9223372036854775807) (h : countP c = 0) (w : World) :
    Calls Try.prog 62 #[cv c, .int .i64 f, .int .i64 b] w fun e w' => ∃ v, e = .returned v ∧ Row w' w.heap.size v (roundsP c f b) ∧ Below w.heap.size w w' := by
  have HZ := Hd.mk h
  clear h
  go_enter Try.func62, Try.ntmps62
  go_wp2_with fail
  refine (f54_is c 0 HZ.out _).mono ?_
  rintro e w1 ⟨rfl, hb1⟩
  have S1 := keepS hb1 (s0 c w)
  clear hb1
  go_wp2
  go_ret
  exact ⟨_, rfl, by rw [rounds_no HZ.out]; exact Row.nil_ _ _, sB S1⟩

set_option maxHeartbeats 1000000 in
set_option maxRecDepth 20000 in
theorem f63_no (c : Cfg) (f b : Int) (f0 : -9223372036854775808 ≤ f) (f1 : f ≤ 9223372036854775807) (b0' : -9223372036854775808 ≤ b) (b1 : b ≤ 9223372036854775807) (h : countP c = 0) (w : World) :
    Calls Try.prog 63 #[cv c, .int .i64 f, .int .i64 b] w fun e w' => ∃ v, e = .returned v ∧ Row w' w.heap.size v (roundsP c f b) ∧ Below w.heap.size w w' := by
  have HZ := Hd.mk h
  clear h
  go_enter Try.func63, Try.ntmps63
  go_wp2_with fail
  refine (f55_is c 0 HZ.out _).mono ?_
  rintro e w1 ⟨rfl, hb1⟩
  have S1 := keepS hb1 (s0 c w)
  clear hb1
  go_wp2
  go_ret
  exact ⟨_, rfl, by rw [rounds_no HZ.out]; exact Row.nil_ _ _, sB S1⟩

set_option maxHeartbeats 1000000 in
set_option maxRecDepth 20000 in
theorem f62_in (c : Cfg) (f b : Int) (f0 : -9223372036854775808 ≤ f) (f1 : f ≤ 9223372036854775807) (b0' : -9223372036854775808 ≤ b) (b1 : b ≤ 9223372036854775807) (h : 0 < countP c) (w : World) :
    Calls Try.prog 62 #[cv c, .int .i64 f, .int .i64 b] w fun e w' => ∃ v, e = .returned v ∧ Row w' w.heap.size v (roundsP c f b) ∧ Below w.heap.size w w' := by
  have hcb := count_bd c
  obtain ⟨N, hN⟩ : ∃ N : Nat, countP c = (N : Int) := ⟨(countP c).toNat, by omega⟩
  rw [hN] at hcb h
  have hN1 : 1 ≤ N := by omega
  have hN2 : N ≤ 389120 := by omega
  have hm1 : (1 : Int) ≤ (N : Int) := by omega
  have hm2 : (N : Int) ≤ 400000 := by omega
  obtain ⟨a0, HA0⟩ : ∃ a : Nat, Hd (rndI f % (N : Int) = (a : Int)) := ⟨(rndI f % (N : Int)).toNat, ⟨by have := Int.emod_nonneg (rndI f) (show (N : Int) ≠ 0 by omega); omega⟩⟩
  obtain ⟨b0, HB0⟩ : ∃ a : Nat, Hd (rndI b % (N : Int) = (a : Int)) := ⟨(rndI b % (N : Int)).toNat, ⟨by have := Int.emod_nonneg (rndI b) (show (N : Int) ≠ 0 by omega); omega⟩⟩
  have ha0 : a0 < N := by have := Int.emod_lt_of_pos (rndI f) (show 0 < (N : Int) by omega); rw [HA0.out] at this; omega
  have hb0 : b0 < N := by have := Int.emod_lt_of_pos (rndI b) (show 0 < (N : Int) by omega); rw [HB0.out] at this; omega
  have HN := Hd.mk hN
  have hz : ((N : Int) == 0) = false := by rw [beq_eq_false_iff_ne]; omega
  have hmk := run_make_row' (P := Try.prog) 66 4 (.bool false) 1 Try.underlying66 info4 rfl .i64 .i64 N (by omega) (by omega)
  clear hN hcb h
  go_enter Try.func62, Try.ntmps62
  go_wp2_with fail
  refine (f54_is c (N : Int) HN.out _).mono ?_
  rintro e w1 ⟨rfl, hb1⟩
  have S1 := keepS hb1 (s0 c w)
  clear hb1
  have HAD : Hd ((w1.alloc (.cells (madeCells #[.bool false] N) 4)).rowIs w1.heap.size 4 N (fun j => .bool false)) := ⟨World.rowIs_made w1 (.bool false) N 4⟩
  have BB : Hd (Below w.heap.size w (w1.alloc (.cells (madeCells #[.bool false] N) 4))) := ⟨balloc (sB S1) _⟩
  obtain ⟨g, hg⟩ : ∃ g, w1.heap.size = g := ⟨_, rfl⟩
  have hgw : w.heap.size < g := by rw [← hg]; exact S1.2.2.2.2.2.2.2.2.2.1
  rw [hg] at HAD
  clear S1
  go_wp2_with fail
  clear hg
  generalize (w1.alloc (.cells (madeCells #[.bool false] N) 4)) = w2 at HAD BB ⊢
  clear hmk
  refine (f87_is f (N : Int) (a0 : Int) HA0.out f0 f1 hm1 hm2 _).mono ?_
  rintro e w3 ⟨rfl, rfl⟩
  go_wp2_with fail
  refine (f87_is b (N : Int) (b0 : Int) HB0.out b0' b1 hm1 hm2 _).mono ?_
  rintro e w3 ⟨rfl, rfl⟩
  go_wp2_with fail
  go_loopw [9, 11, 26] (fun a v i W => ∃ k : Nat, RelR N (1 + b0) a0 w g a v W k ∧ i = .int .i64 (k : Int)) (fun _ _ i _ => N - (intOf i).toNat)
  case atStart => exact ⟨0, ⟨by omega, by first | rfl | (rw [HA9.out]; rfl), Row.nil_ _ _, HAD.out, BB.out⟩, rfl⟩
  case round =>
    obtain ⟨k, ⟨hk, rfl, hrow, hhad, hbw⟩, rfl⟩ := hrel
    have hinv := run_inv (s := 1 + b0) ha0 k hk
    rcases hσ : runR N (1 + b0) a0 k with ⟨had0, pos0, l0⟩
    rw [hσ] at hrow hhad hinv
    have HSI := Hd.mk hσ
    have hp0 : pos0 < N := hinv.pos
    have hl0 : l0.length = k := hinv.len
    have HI := Hd.mk hinv
    have HR : Hd (Row _ (g + 1) _ (l0.map Int.ofNat)) := ⟨hrow⟩
    have HH := Hd.mk hhad
    have HB := Hd.mk hbw
    have HL := Hd.mk hl0
    clear hinv hrow hhad hbw hl0 HAD BB hσ
    by_cases hlt : k < N
    · obtain ⟨hpn, hpf, hsl⟩ := inv_next HI.out hlt
      obtain ⟨p, HP⟩ : ∃ p, Hd (nextP N ⟨had0, pos0, l0⟩ = p) := ⟨_, ⟨rfl⟩⟩
      rw [HP.out] at hpn hpf
      have HPF := Hd.mk hpf
      have HSL : Hd (seekD had0 N N pos0 < N) := ⟨hsl⟩
      clear hpf hsl
      have hbk : decide ((k : Int) < (N : Int)) = true := decide_eq_true (by omega)
      go_wp2_with fail
      go_loop [9] (fun a => ∃ c : Nat, c < N ∧ a = .int .i64 (c : Int) ∧ Hd ((c + seekD had0 N N c) % N = p) ∧ Hd (seekD had0 N N c < N)) (fun a => seekD had0 N N (intOf a).toNat)
      case atStart => exact ⟨pos0, hp0, rfl, ⟨HP.out⟩, HSL⟩
      case round =>
        obtain ⟨c, hc, rfl, HC, HCL⟩ := hrel
        have i0 : (0 : Int) ≤ (c : Int) := by omega
        have i1 : (c : Int) < (N : Int) := by omega
        rcases hh : had0 c with _ | _
        · have hcell : wr.cell? ⟨g, c, none⟩ = some (.bool false) := by have h := HH.out.cell hc; simp only [hh] at h; exact h
          have hfz := HH.out.frozen c
          have hcp : c = p := by have h := HC.out; rw [seek_here hc hh, Nat.add_zero, Nat.mod_eq_of_lt hc] at h; exact h
          have HCP := Hd.mk hcp
          have HRS := Hd.mk (HR.out.setOther (g := g) (j := c) (u := .bool true) (by omega))
          have HHS := Hd.mk (HH.out.set c (.bool true))
          have hgz := HHS.out.lt
          have BS : Hd (Below w.heap.size w (wr.setCell ⟨g, c, none⟩ (.bool true))) := ⟨bset HB.out (by show w.heap.size ≤ g; omega) _⟩
          clear hcp hh HH
          go_wp2_with (at_builtin; refine wpList_app1 rfl (.tmp 39) (.tmp 41) rfl (g + 1) _ _ rfl _ rfl (c : Int) (HRS.out.alloc _) (new_cell (by simp)) (by rw [List.length_map, HL.out]; omega) (by simp at hgz ⊢; omega) ?_; intro v' W2 hr2 hg2)
          have HR2 := Hd.mk hr2
          have HH2 := Hd.mk (rowIs_grown (HHS.out.alloc _) (HRS.out.alloc _) (by omega) hg2)
          have B2 := Hd.mk ((balloc BS.out _).grown hg2 (balloc BS.out _).size (fun q hq => by have h1 := ((HRS.out.alloc (.cells #[.int .i64 (c : Int)] 3)).lt q hq).1; have h2 := hgw; omega))
          clear hr2 hg2 HRS HHS BS hgz
          go_roundw
          case rel => exact ⟨k + 1, ⟨by omega, by rw [runR, HSI.out]; show _ = Value.int .i64 (((nextP N ⟨had0, pos0, l0⟩ + (1 + b0)) % N : Nat) : Int); rw [HP.out, ← HCP.out]; exact mod_c _ _ _ _ (by omega), by rw [runR, HSI.out]; show Row _ _ _ ((l0 ++ [nextP N ⟨had0, pos0, l0⟩]).map Int.ofNat); rw [HP.out, ← HCP.out, List.map_append]; exact HR2.out, by rw [runR, HSI.out]; refine HH2.out.congr fun i _ => ?_; show _ = Value.bool (setT had0 (nextP N ⟨had0, pos0, l0⟩) i); rw [HP.out, ← HCP.out]; unfold setT; split <;> rfl, B2.out⟩, by go_num⟩
          case measure =>
            simp [intOf]; omega
        · have hcell : wr.cell? ⟨g, c, none⟩ = some (.bool true) := by have h := HH.out.cell hc; simp only [hh] at h; exact h
          have hlt2 : seekD had0 N N ((c + 1) % N) < N := seek_lt (Nat.mod_lt _ (by omega)) hpn HPF.out
          have HST := Hd.mk (seek_step hc hh hlt2)
          have HL2 := Hd.mk hlt2
          clear hh hlt2
          go_wp2
          go_round
          case rel => exact ⟨(c + 1) % N, Nat.mod_lt _ (by omega), mod_c c N 1 1 rfl, ⟨by rw [← HST.out.2]; exact HC.out⟩, HL2⟩
          case measure => simp only [intOf]; rw [mod_n]; have := HST.out.1; simp at this ⊢; omega
    · have hkN : k = N := by omega
      have HKN := Hd.mk hkN
      clear hkN
      go_wp2
      go_ret
      have HE : Hd (roundsP c f b = l0.map Int.ofNat) := ⟨by
        have h := HSI.out
        rw [HKN.out] at h
        rw [rounds_is HN.out HA0.out HB0.out, h]⟩
      exact ⟨_, rfl, by rw [HE.out]; exact HR.out.mono (by omega), HB.out⟩

theorem f62_any (c : Cfg) (f b : Int) (f0 : -9223372036854775808 ≤ f) (f1 : f ≤ 9223372036854775807) (b0' : -9223372036854775808 ≤ b) (b1 : b ≤ 9223372036854775807) (w : World) : Calls Try.prog 62 #[cv c, .int .i64 f, .int .i64 b] w fun e w' => ∃ v, e = .returned v ∧ Row w' w.heap.size v (roundsP c f b) ∧ Below w.heap.size w w' := by
  by_cases h : countP c = 0
  · exact f62_no c f b f0 f1 b0' b1 h w
  · exact f62_in c f b f0 f1 b0' b1 (by have := count_bd c; omega) w

set_option maxHeartbeats 1000000 in
set_option maxRecDepth 20000 in
theorem f63_nn (c : Cfg) (f b : Int) (f0 : -9223372036854775808 ≤ f) (f1 : f ≤ 9223372036854775807) (b0' : -9223372036854775808 ≤ b) (b1 : b ≤ 9223372036854775807) (h : 0 < countP c) (hsf : f < 0) (hsb : b < 0) (w : World) :
    Calls Try.prog 63 #[cv c, .int .i64 f, .int .i64 b] w fun e w' => ∃ v, e = .returned v ∧ Row w' w.heap.size v (roundsP c f b) ∧ Below w.heap.size w w' := by
  have hcb := count_bd c
  obtain ⟨N, hN⟩ : ∃ N : Nat, countP c = (N : Int) := ⟨(countP c).toNat, by omega⟩
  rw [hN] at hcb h
  have hN1 : 1 ≤ N := by omega
  have hN2 : N ≤ 389120 := by omega
  have hm1 : (1 : Int) ≤ (N : Int) := by omega
  have hm2 : (N : Int) ≤ 400000 := by omega
  obtain ⟨a0, HA0⟩ : ∃ a : Nat, Hd (rndI f % (N : Int) = (a : Int)) := ⟨(rndI f % (N : Int)).toNat, ⟨by have := Int.emod_nonneg (rndI f) (show (N : Int) ≠ 0 by omega); omega⟩⟩
  obtain ⟨b0, HB0⟩ : ∃ a : Nat, Hd (rndI b % (N : Int) = (a : Int)) := ⟨(rndI b % (N : Int)).toNat, ⟨by have := Int.emod_nonneg (rndI b) (show (N : Int) ≠ 0 by omega); omega⟩⟩
  have ha0 : a0 < N := by have := Int.emod_lt_of_pos (rndI f) (show 0 < (N : Int) by omega); rw [HA0.out] at this; omega
  have hb0 : b0 < N := by have := Int.emod_lt_of_pos (rndI b) (show 0 < (N : Int) by omega); rw [HB0.out] at this; omega
  have HN := Hd.mk hN
  have hz : ((N : Int) == 0) = false := by rw [beq_eq_false_iff_ne]; omega
  have hmk := run_make_row' (P := Try.prog) 66 4 (.bool false) 1 Try.underlying66 info4 rfl .i64 .i64 N (by omega) (by omega)
  clear hN hcb h
  have hnf : f < 0 := by omega
  have e1f : -((f + 1).tmod (N : Int)) = (a0 : Int) := by rw [← Int.neg_tmod, Int.tmod_eq_emod_of_nonneg (by omega)]; have h := HA0.out; unfold rndI at h; rw [if_pos (by omega)] at h; exact h
  have e2f : (-(f + 1)).tmod (N : Int) = (a0 : Int) := by rw [Int.neg_tmod]; exact e1f
  have hnb : b < 0 := by omega
  have e1b : -((b + 1).tmod (N : Int)) = (b0 : Int) := by rw [← Int.neg_tmod, Int.tmod_eq_emod_of_nonneg (by omega)]; have h := HB0.out; unfold rndI at h; rw [if_pos (by omega)] at h; exact h
  have e2b : (-(b + 1)).tmod (N : Int) = (b0 : Int) := by rw [Int.neg_tmod]; exact e1b
  go_enter Try.func63, Try.ntmps63
  go_wp2_with fail
  refine (f55_is c (N : Int) HN.out _).mono ?_
  rintro e w1 ⟨rfl, hb1⟩
  have S1 := keepS hb1 (s0 c w)
  clear hb1
  have HAD : Hd ((w1.alloc (.cells (madeCells #[.bool false] N) 4)).rowIs w1.heap.size 4 N (fun j => .bool false)) := ⟨World.rowIs_made w1 (.bool false) N 4⟩
  have BB : Hd (Below w.heap.size w (w1.alloc (.cells (madeCells #[.bool false] N) 4))) := ⟨balloc (sB S1) _⟩
  obtain ⟨g, hg⟩ : ∃ g, w1.heap.size = g := ⟨_, rfl⟩
  have hgw : w.heap.size < g := by rw [← hg]; exact S1.2.2.2.2.2.2.2.2.2.1
  rw [hg] at HAD
  clear S1
  go_wp2_with fail
  clear hg
  generalize (w1.alloc (.cells (madeCells #[.bool false] N) 4)) = w2 at HAD BB ⊢
  have HA9 := Hd.mk e1f
  clear hmk e1f e1b e2f hnf e2b hnb
  go_loopw [8, 10] (fun a v W => ∃ k : Nat, RelR N (1 + b0) a0 w g a v W k) (fun _ v _ => N - lenOf v)
  case atStart => exact ⟨0, ⟨by omega, by first | rfl | (rw [HA9.out]; rfl), Row.nil_ _ _, HAD.out, BB.out⟩⟩
  case round =>
    obtain ⟨k, ⟨hk, rfl, hrow, hhad, hbw⟩⟩ := hrel
    have hinv := run_inv (s := 1 + b0) ha0 k hk
    rcases hσ : runR N (1 + b0) a0 k with ⟨had0, pos0, l0⟩
    rw [hσ] at hrow hhad hinv
    have HSI := Hd.mk hσ
    have hp0 : pos0 < N := hinv.pos
    have hl0 : l0.length = k := hinv.len
    have HI := Hd.mk hinv
    have HR : Hd (Row _ (g + 1) _ (l0.map Int.ofNat)) := ⟨hrow⟩
    have HH := Hd.mk hhad
    have HB := Hd.mk hbw
    have HL := Hd.mk hl0
    clear hinv hrow hhad hbw hl0 HAD BB hσ
    obtain ⟨A, cap, hv, hcap, -⟩ := HR.out.rd
    rw [List.length_map, HL.out] at hv
    subst hv
    by_cases hlt : k < N
    · obtain ⟨hpn, hpf, hsl⟩ := inv_next HI.out hlt
      obtain ⟨p, HP⟩ : ∃ p, Hd (nextP N ⟨had0, pos0, l0⟩ = p) := ⟨_, ⟨rfl⟩⟩
      rw [HP.out] at hpn hpf
      have HPF := Hd.mk hpf
      have HSL : Hd (seekD had0 N N pos0 < N) := ⟨hsl⟩
      clear hpf hsl
      have hbk : decide ((k : Int) < (N : Int)) = true := decide_eq_true (by omega)
      go_wp2_with fail
      go_loop [8] (fun a => ∃ c : Nat, c < N ∧ a = .int .i64 (c : Int) ∧ Hd ((c + seekD had0 N N c) % N = p) ∧ Hd (seekD had0 N N c < N)) (fun a => seekD had0 N N (intOf a).toNat)
      case atStart => exact ⟨pos0, hp0, rfl, ⟨HP.out⟩, HSL⟩
      case round =>
        obtain ⟨c, hc, rfl, HC, HCL⟩ := hrel
        have i0 : (0 : Int) ≤ (c : Int) := by omega
        have i1 : (c : Int) < (N : Int) := by omega
        rcases hh : had0 c with _ | _
        · have hcell : wr.cell? ⟨g, c, none⟩ = some (.bool false) := by have h := HH.out.cell hc; simp only [hh] at h; exact h
          have hfz := HH.out.frozen c
          have hcp : c = p := by have h := HC.out; rw [seek_here hc hh, Nat.add_zero, Nat.mod_eq_of_lt hc] at h; exact h
          have HCP := Hd.mk hcp
          have HRS := Hd.mk (HR.out.setOther (g := g) (j := c) (u := .bool true) (by omega))
          have HHS := Hd.mk (HH.out.set c (.bool true))
          have hgz := HHS.out.lt
          have BS : Hd (Below w.heap.size w (wr.setCell ⟨g, c, none⟩ (.bool true))) := ⟨bset HB.out (by show w.heap.size ≤ g; omega) _⟩
          clear hcp hh HH
          go_wp2_with (at_builtin; refine wpList_app1 rfl (.tmp 49) (.tmp 51) rfl (g + 1) _ _ rfl _ rfl (c : Int) (HRS.out.alloc _) (new_cell (by simp)) (by rw [List.length_map, HL.out]; omega) (by simp at hgz ⊢; omega) ?_; intro v' W2 hr2 hg2)
          have HR2 := Hd.mk hr2
          have HH2 := Hd.mk (rowIs_grown (HHS.out.alloc _) (HRS.out.alloc _) (by omega) hg2)
          have B2 := Hd.mk ((balloc BS.out _).grown hg2 (balloc BS.out _).size (fun q hq => by have h1 := ((HRS.out.alloc (.cells #[.int .i64 (c : Int)] 3)).lt q hq).1; have h2 := hgw; omega))
          clear hr2 hg2 HRS HHS BS hgz
          go_roundw
          case rel => exact ⟨k + 1, ⟨by omega, by rw [runR, HSI.out]; show _ = Value.int .i64 (((nextP N ⟨had0, pos0, l0⟩ + (1 + b0)) % N : Nat) : Int); rw [HP.out, ← HCP.out]; exact mod_c _ _ _ _ (by omega), by rw [runR, HSI.out]; show Row _ _ _ ((l0 ++ [nextP N ⟨had0, pos0, l0⟩]).map Int.ofNat); rw [HP.out, ← HCP.out, List.map_append]; exact HR2.out, by rw [runR, HSI.out]; refine HH2.out.congr fun i _ => ?_; show _ = Value.bool (setT had0 (nextP N ⟨had0, pos0, l0⟩) i); rw [HP.out, ← HCP.out]; unfold setT; split <;> rfl, B2.out⟩⟩
          case measure =>
            obtain ⟨A', cap', hv', -, -⟩ := HR2.out.rd
            rw [List.length_append, List.length_map, HL.out] at hv'
            rw [hv']
            simp [lenOf]; omega
        · have hcell : wr.cell? ⟨g, c, none⟩ = some (.bool true) := by have h := HH.out.cell hc; simp only [hh] at h; exact h
          have hlt2 : seekD had0 N N ((c + 1) % N) < N := seek_lt (Nat.mod_lt _ (by omega)) hpn HPF.out
          have HST := Hd.mk (seek_step hc hh hlt2)
          have HL2 := Hd.mk hlt2
          clear hh hlt2
          go_wp2
          go_round
          case rel => exact ⟨(c + 1) % N, Nat.mod_lt _ (by omega), mod_c c N 1 1 rfl, ⟨by rw [← HST.out.2]; exact HC.out⟩, HL2⟩
          case measure => simp only [intOf]; rw [mod_n]; have := HST.out.1; simp at this ⊢; omega
    · have hkN : k = N := by omega
      have HKN := Hd.mk hkN
      clear hkN
      go_wp2
      go_ret
      have HE : Hd (roundsP c f b = l0.map Int.ofNat) := ⟨by
        have h := HSI.out
        rw [HKN.out] at h
        rw [rounds_is HN.out HA0.out HB0.out, h]⟩
      exact ⟨_, rfl, by rw [HE.out]; exact HR.out.mono (by omega), HB.out⟩

set_option maxHeartbeats 1000000 in
set_option maxRecDepth 20000 in
theorem f63_np (c : Cfg) (f b : Int) (f0 : -9223372036854775808 ≤ f) (f1 : f ≤ 9223372036854775807) (b0' : -9223372036854775808 ≤ b) (b1 : b ≤ 9223372036854775807) (h : 0 < countP c) (hsf : f < 0) (hsb : 0 ≤ b) (w : World) :
    Calls Try.prog 63 #[cv c, .int .i64 f, .int .i64 b] w fun e w' => ∃ v, e = .returned v ∧ Row w' w.heap.size v (roundsP c f b) ∧ Below w.heap.size w w' := by
  have hcb := count_bd c
  obtain ⟨N, hN⟩ : ∃ N : Nat, countP c = (N : Int) := ⟨(countP c).toNat, by omega⟩
  rw [hN] at hcb h
  have hN1 : 1 ≤ N := by omega
  have hN2 : N ≤ 389120 := by omega
  have hm1 : (1 : Int) ≤ (N : Int) := by omega
  have hm2 : (N : Int) ≤ 400000 := by omega
  obtain ⟨a0, HA0⟩ : ∃ a : Nat, Hd (rndI f % (N : Int) = (a : Int)) := ⟨(rndI f % (N : Int)).toNat, ⟨by have := Int.emod_nonneg (rndI f) (show (N : Int) ≠ 0 by omega); omega⟩⟩
  obtain ⟨b0, HB0⟩ : ∃ a : Nat, Hd (rndI b % (N : Int) = (a : Int)) := ⟨(rndI b % (N : Int)).toNat, ⟨by have := Int.emod_nonneg (rndI b) (show (N : Int) ≠ 0 by omega); omega⟩⟩
  have ha0 : a0 < N := by have := Int.emod_lt_of_pos (rndI f) (show 0 < (N : Int) by omega); rw [HA0.out] at this; omega
  have hb0 : b0 < N := by have := Int.emod_lt_of_pos (rndI b) (show 0 < (N : Int) by omega); rw [HB0.out] at this; omega
  have HN := Hd.mk hN
  have hz : ((N : Int) == 0) = false := by rw [beq_eq_false_iff_ne]; omega
  have hmk := run_make_row' (P := Try.prog) 66 4 (.bool false) 1 Try.underlying66 info4 rfl .i64 .i64 N (by omega) (by omega)
  clear hN hcb h
  have hnf : f < 0 := by omega
  have e1f : -((f + 1).tmod (N : Int)) = (a0 : Int) := by rw [← Int.neg_tmod, Int.tmod_eq_emod_of_nonneg (by omega)]; have h := HA0.out; unfold rndI at h; rw [if_pos (by omega)] at h; exact h
  have e2f : (-(f + 1)).tmod (N : Int) = (a0 : Int) := by rw [Int.neg_tmod]; exact e1f
  have e1b : b % (N : Int) = (b0 : Int) := by have h := HB0.out; unfold rndI at h; rw [if_neg (by omega)] at h; exact h
  go_enter Try.func63, Try.ntmps63
  go_wp2_with fail
  refine (f55_is c (N : Int) HN.out _).mono ?_
  rintro e w1 ⟨rfl, hb1⟩
  have S1 := keepS hb1 (s0 c w)
  clear hb1
  have HAD : Hd ((w1.alloc (.cells (madeCells #[.bool false] N) 4)).rowIs w1.heap.size 4 N (fun j => .bool false)) := ⟨World.rowIs_made w1 (.bool false) N 4⟩
  have BB : Hd (Below w.heap.size w (w1.alloc (.cells (madeCells #[.bool false] N) 4))) := ⟨balloc (sB S1) _⟩
  obtain ⟨g, hg⟩ : ∃ g, w1.heap.size = g := ⟨_, rfl⟩
  have hgw : w.heap.size < g := by rw [← hg]; exact S1.2.2.2.2.2.2.2.2.2.1
  rw [hg] at HAD
  clear S1
  go_wp2_with fail
  clear hg
  generalize (w1.alloc (.cells (madeCells #[.bool false] N) 4)) = w2 at HAD BB ⊢
  have HA9 := Hd.mk e1f
  clear hmk e1f e1b e2f hnf 
  go_loopw [8, 10] (fun a v W => ∃ k : Nat, RelR N (1 + b0) a0 w g a v W k) (fun _ v _ => N - lenOf v)
  case atStart => exact ⟨0, ⟨by omega, by first | rfl | (rw [HA9.out]; rfl), Row.nil_ _ _, HAD.out, BB.out⟩⟩
  case round =>
    obtain ⟨k, ⟨hk, rfl, hrow, hhad, hbw⟩⟩ := hrel
    have hinv := run_inv (s := 1 + b0) ha0 k hk
    rcases hσ : runR N (1 + b0) a0 k with ⟨had0, pos0, l0⟩
    rw [hσ] at hrow hhad hinv
    have HSI := Hd.mk hσ
    have hp0 : pos0 < N := hinv.pos
    have hl0 : l0.length = k := hinv.len
    have HI := Hd.mk hinv
    have HR : Hd (Row _ (g + 1) _ (l0.map Int.ofNat)) := ⟨hrow⟩
    have HH := Hd.mk hhad
    have HB := Hd.mk hbw
    have HL := Hd.mk hl0
    clear hinv hrow hhad hbw hl0 HAD BB hσ
    obtain ⟨A, cap, hv, hcap, -⟩ := HR.out.rd
    rw [List.length_map, HL.out] at hv
    subst hv
    by_cases hlt : k < N
    · obtain ⟨hpn, hpf, hsl⟩ := inv_next HI.out hlt
      obtain ⟨p, HP⟩ : ∃ p, Hd (nextP N ⟨had0, pos0, l0⟩ = p) := ⟨_, ⟨rfl⟩⟩
      rw [HP.out] at hpn hpf
      have HPF := Hd.mk hpf
      have HSL : Hd (seekD had0 N N pos0 < N) := ⟨hsl⟩
      clear hpf hsl
      have hbk : decide ((k : Int) < (N : Int)) = true := decide_eq_true (by omega)
      go_wp2_with fail
      go_loop [8] (fun a => ∃ c : Nat, c < N ∧ a = .int .i64 (c : Int) ∧ Hd ((c + seekD had0 N N c) % N = p) ∧ Hd (seekD had0 N N c < N)) (fun a => seekD had0 N N (intOf a).toNat)
      case atStart => exact ⟨pos0, hp0, rfl, ⟨HP.out⟩, HSL⟩
      case round =>
        obtain ⟨c, hc, rfl, HC, HCL⟩ := hrel
        have i0 : (0 : Int) ≤ (c : Int) := by omega
        have i1 : (c : Int) < (N : Int) := by omega
        rcases hh : had0 c with _ | _
        · have hcell : wr.cell? ⟨g, c, none⟩ = some (.bool false) := by have h := HH.out.cell hc; simp only [hh] at h; exact h
          have hfz := HH.out.frozen c
          have hcp : c = p := by have h := HC.out; rw [seek_here hc hh, Nat.add_zero, Nat.mod_eq_of_lt hc] at h; exact h
          have HCP := Hd.mk hcp
          have HRS := Hd.mk (HR.out.setOther (g := g) (j := c) (u := .bool true) (by omega))
          have HHS := Hd.mk (HH.out.set c (.bool true))
          have hgz := HHS.out.lt
          have BS : Hd (Below w.heap.size w (wr.setCell ⟨g, c, none⟩ (.bool true))) := ⟨bset HB.out (by show w.heap.size ≤ g; omega) _⟩
          clear hcp hh HH
          go_wp2_with (at_builtin; refine wpList_app1 rfl (.tmp 49) (.tmp 51) rfl (g + 1) _ _ rfl _ rfl (c : Int) (HRS.out.alloc _) (new_cell (by simp)) (by rw [List.length_map, HL.out]; omega) (by simp at hgz ⊢; omega) ?_; intro v' W2 hr2 hg2)
          have HR2 := Hd.mk hr2
          have HH2 := Hd.mk (rowIs_grown (HHS.out.alloc _) (HRS.out.alloc _) (by omega) hg2)
          have B2 := Hd.mk ((balloc BS.out _).grown hg2 (balloc BS.out _).size (fun q hq => by have h1 := ((HRS.out.alloc (.cells #[.int .i64 (c : Int)] 3)).lt q hq).1; have h2 := hgw; omega))
          clear hr2 hg2 HRS HHS BS hgz
          go_roundw
          case rel => exact ⟨k + 1, ⟨by omega, by rw [runR, HSI.out]; show _ = Value.int .i64 (((nextP N ⟨had0, pos0, l0⟩ + (1 + b0)) % N : Nat) : Int); rw [HP.out, ← HCP.out]; exact mod_c _ _ _ _ (by omega), by rw [runR, HSI.out]; show Row _ _ _ ((l0 ++ [nextP N ⟨had0, pos0, l0⟩]).map Int.ofNat); rw [HP.out, ← HCP.out, List.map_append]; exact HR2.out, by rw [runR, HSI.out]; refine HH2.out.congr fun i _ => ?_; show _ = Value.bool (setT had0 (nextP N ⟨had0, pos0, l0⟩) i); rw [HP.out, ← HCP.out]; unfold setT; split <;> rfl, B2.out⟩⟩
          case measure =>
            obtain ⟨A', cap', hv', -, -⟩ := HR2.out.rd
            rw [List.length_append, List.length_map, HL.out] at hv'
            rw [hv']
            simp [lenOf]; omega
        · have hcell : wr.cell? ⟨g, c, none⟩ = some (.bool true) := by have h := HH.out.cell hc; simp only [hh] at h; exact h
          have hlt2 : seekD had0 N N ((c + 1) % N) < N := seek_lt (Nat.mod_lt _ (by omega)) hpn HPF.out
          have HST := Hd.mk (seek_step hc hh hlt2)
          have HL2 := Hd.mk hlt2
          clear hh hlt2
          go_wp2
          go_round
          case rel => exact ⟨(c + 1) % N, Nat.mod_lt _ (by omega), mod_c c N 1 1 rfl, ⟨by rw [← HST.out.2]; exact HC.out⟩, HL2⟩
          case measure => simp only [intOf]; rw [mod_n]; have := HST.out.1; simp at this ⊢; omega
    · have hkN : k = N := by omega
      have HKN := Hd.mk hkN
      clear hkN
      go_wp2
      go_ret
      have HE : Hd (roundsP c f b = l0.map Int.ofNat) := ⟨by
        have h := HSI.out
        rw [HKN.out] at h
        rw [rounds_is HN.out HA0.out HB0.out, h]⟩
      exact ⟨_, rfl, by rw [HE.out]; exact HR.out.mono (by omega), HB.out⟩

set_option maxHeartbeats 1000000 in
set_option maxRecDepth 20000 in
theorem f63_pn (c : Cfg) (f b : Int) (f0 : -9223372036854775808 ≤ f) (f1 : f ≤ 9223372036854775807) (b0' : -9223372036854775808 ≤ b) (b1 : b ≤ 9223372036854775807) (h : 0 < countP c) (hsf : 0 ≤ f) (hsb : b < 0) (w : World) :
    Calls Try.prog 63 #[cv c, .int .i64 f, .int .i64 b] w fun e w' => ∃ v, e = .returned v ∧ Row w' w.heap.size v (roundsP c f b) ∧ Below w.heap.size w w' := by
  have hcb := count_bd c
  obtain ⟨N, hN⟩ : ∃ N : Nat, countP c = (N : Int) := ⟨(countP c).toNat, by omega⟩
  rw [hN] at hcb h
  have hN1 : 1 ≤ N := by omega
  have hN2 : N ≤ 389120 := by omega
  have hm1 : (1 : Int) ≤ (N : Int) := by omega
  have hm2 : (N : Int) ≤ 400000 := by omega
  obtain ⟨a0, HA0⟩ : ∃ a : Nat, Hd (rndI f % (N : Int) = (a : Int)) := ⟨(rndI f % (N : Int)).toNat, ⟨by have := Int.emod_nonneg (rndI f) (show (N : Int) ≠ 0 by omega); omega⟩⟩
  obtain ⟨b0, HB0⟩ : ∃ a : Nat, Hd (rndI b % (N : Int) = (a : Int)) := ⟨(rndI b % (N : Int)).toNat, ⟨by have := Int.emod_nonneg (rndI b) (show (N : Int) ≠ 0 by omega); omega⟩⟩
  have ha0 : a0 < N := by have := Int.emod_lt_of_pos (rndI f) (show 0 < (N : Int) by omega); rw [HA0.out] at this; omega
  have hb0 : b0 < N := by have := Int.emod_lt_of_pos (rndI b) (show 0 < (N : Int) by omega); rw [HB0.out] at this; omega
  have HN := Hd.mk hN
  have hz : ((N : Int) == 0) = false := by rw [beq_eq_false_iff_ne]; omega
  have hmk := run_make_row' (P := Try.prog) 66 4 (.bool false) 1 Try.underlying66 info4 rfl .i64 .i64 N (by omega) (by omega)
  clear hN hcb h
  have e1f : f % (N : Int) = (a0 : Int) := by have h := HA0.out; unfold rndI at h; rw [if_neg (by omega)] at h; exact h
  have hnb : b < 0 := by omega
  have e1b : -((b + 1).tmod (N : Int)) = (b0 : Int) := by rw [← Int.neg_tmod, Int.tmod_eq_emod_of_nonneg (by omega)]; have h := HB0.out; unfold rndI at h; rw [if_pos (by omega)] at h; exact h
  have e2b : (-(b + 1)).tmod (N : Int) = (b0 : Int) := by rw [Int.neg_tmod]; exact e1b
  go_enter Try.func63, Try.ntmps63
  go_wp2_with fail
  refine (f55_is c (N : Int) HN.out _).mono ?_
  rintro e w1 ⟨rfl, hb1⟩
  have S1 := keepS hb1 (s0 c w)
  clear hb1
  have HAD : Hd ((w1.alloc (.cells (madeCells #[.bool false] N) 4)).rowIs w1.heap.size 4 N (fun j => .bool false)) := ⟨World.rowIs_made w1 (.bool false) N 4⟩
  have BB : Hd (Below w.heap.size w (w1.alloc (.cells (madeCells #[.bool false] N) 4))) := ⟨balloc (sB S1) _⟩
  obtain ⟨g, hg⟩ : ∃ g, w1.heap.size = g := ⟨_, rfl⟩
  have hgw : w.heap.size < g := by rw [← hg]; exact S1.2.2.2.2.2.2.2.2.2.1
  rw [hg] at HAD
  clear S1
  go_wp2_with fail
  clear hg
  generalize (w1.alloc (.cells (madeCells #[.bool false] N) 4)) = w2 at HAD BB ⊢
  have HA9 := Hd.mk e1f
  clear hmk e1f e1b e2b hnb
  go_loopw [8, 10] (fun a v W => ∃ k : Nat, RelR N (1 + b0) a0 w g a v W k) (fun _ v _ => N - lenOf v)
  case atStart => exact ⟨0, ⟨by omega, by first | rfl | (rw [HA9.out]; rfl), Row.nil_ _ _, HAD.out, BB.out⟩⟩
  case round =>
    obtain ⟨k, ⟨hk, rfl, hrow, hhad, hbw⟩⟩ := hrel
    have hinv := run_inv (s := 1 + b0) ha0 k hk
    rcases hσ : runR N (1 + b0) a0 k with ⟨had0, pos0, l0⟩
    rw [hσ] at hrow hhad hinv
    have HSI := Hd.mk hσ
    have hp0 : pos0 < N := hinv.pos
    have hl0 : l0.length = k := hinv.len
    have HI := Hd.mk hinv
    have HR : Hd (Row _ (g + 1) _ (l0.map Int.ofNat)) := ⟨hrow⟩
    have HH := Hd.mk hhad
    have HB := Hd.mk hbw
    have HL := Hd.mk hl0
    clear hinv hrow hhad hbw hl0 HAD BB hσ
    obtain ⟨A, cap, hv, hcap, -⟩ := HR.out.rd
    rw [List.length_map, HL.out] at hv
    subst hv
    by_cases hlt : k < N
    · obtain ⟨hpn, hpf, hsl⟩ := inv_next HI.out hlt
      obtain ⟨p, HP⟩ : ∃ p, Hd (nextP N ⟨had0, pos0, l0⟩ = p) := ⟨_, ⟨rfl⟩⟩
      rw [HP.out] at hpn hpf
      have HPF := Hd.mk hpf
      have HSL : Hd (seekD had0 N N pos0 < N) := ⟨hsl⟩
      clear hpf hsl
      have hbk : decide ((k : Int) < (N : Int)) = true := decide_eq_true (by omega)
      go_wp2_with fail
      go_loop [8] (fun a => ∃ c : Nat, c < N ∧ a = .int .i64 (c : Int) ∧ Hd ((c + seekD had0 N N c) % N = p) ∧ Hd (seekD had0 N N c < N)) (fun a => seekD had0 N N (intOf a).toNat)
      case atStart => exact ⟨pos0, hp0, rfl, ⟨HP.out⟩, HSL⟩
      case round =>
        obtain ⟨c, hc, rfl, HC, HCL⟩ := hrel
        have i0 : (0 : Int) ≤ (c : Int) := by omega
        have i1 : (c : Int) < (N : Int) := by omega
        rcases hh : had0 c with _ | _
        · have hcell : wr.cell? ⟨g, c, none⟩ = some (.bool false) := by have h := HH.out.cell hc; simp only [hh] at h; exact h
          have hfz := HH.out.frozen c
          have hcp : c = p := by have h := HC.out; rw [seek_here hc hh, Nat.add_zero, Nat.mod_eq_of_lt hc] at h; exact h
          have HCP := Hd.mk hcp
          have HRS := Hd.mk (HR.out.setOther (g := g) (j := c) (u := .bool true) (by omega))
          have HHS := Hd.mk (HH.out.set c (.bool true))
          have hgz := HHS.out.lt
          have BS : Hd (Below w.heap.size w (wr.setCell ⟨g, c, none⟩ (.bool true))) := ⟨bset HB.out (by show w.heap.size ≤ g; omega) _⟩
          clear hcp hh HH
          go_wp2_with (at_builtin; refine wpList_app1 rfl (.tmp 49) (.tmp 51) rfl (g + 1) _ _ rfl _ rfl (c : Int) (HRS.out.alloc _) (new_cell (by simp)) (by rw [List.length_map, HL.out]; omega) (by simp at hgz ⊢; omega) ?_; intro v' W2 hr2 hg2)
          have HR2 := Hd.mk hr2
          have HH2 := Hd.mk (rowIs_grown (HHS.out.alloc _) (HRS.out.alloc _) (by omega) hg2)
          have B2 := Hd.mk ((balloc BS.out _).grown hg2 (balloc BS.out _).size (fun q hq => by have h1 := ((HRS.out.alloc (.cells #[.int .i64 (c : Int)] 3)).lt q hq).1; have h2 := hgw; omega))
          clear hr2 hg2 HRS HHS BS hgz
          go_roundw
          case rel => exact ⟨k + 1, ⟨by omega, by rw [runR, HSI.out]; show _ = Value.int .i64 (((nextP N ⟨had0, pos0, l0⟩ + (1 + b0)) % N : Nat) : Int); rw [HP.out, ← HCP.out]; exact mod_c _ _ _ _ (by omega), by rw [runR, HSI.out]; show Row _ _ _ ((l0 ++ [nextP N ⟨had0, pos0, l0⟩]).map Int.ofNat); rw [HP.out, ← HCP.out, List.map_append]; exact HR2.out, by rw [runR, HSI.out]; refine HH2.out.congr fun i _ => ?_; show _ = Value.bool (setT had0 (nextP N ⟨had0, pos0, l0⟩) i); rw [HP.out, ← HCP.out]; unfold setT; split <;> rfl, B2.out⟩⟩
          case measure =>
            obtain ⟨A', cap', hv', -, -⟩ := HR2.out.rd
            rw [List.length_append, List.length_map, HL.out] at hv'
            rw [hv']
            simp [lenOf]; omega
        · have hcell : wr.cell? ⟨g, c, none⟩ = some (.bool true) := by have h := HH.out.cell hc; simp only [hh] at h; exact h
          have hlt2 : seekD had0 N N ((c + 1) % N) < N := seek_lt (Nat.mod_lt _ (by omega)) hpn HPF.out
          have HST := Hd.mk (seek_step hc hh hlt2)
          have HL2 := Hd.mk hlt2
          clear hh hlt2
          go_wp2
          go_round
          case rel => exact ⟨(c + 1) % N, Nat.mod_lt _ (by omega), mod_c c N 1 1 rfl, ⟨by rw [← HST.out.2]; exact HC.out⟩, HL2⟩
          case measure => simp only [intOf]; rw [mod_n]; have := HST.out.1; simp at this ⊢; omega
    · have hkN : k = N := by omega
      have HKN := Hd.mk hkN
      clear hkN
      go_wp2
      go_ret
      have HE : Hd (roundsP c f b = l0.map Int.ofNat) := ⟨by
        have h := HSI.out
        rw [HKN.out] at h
        rw [rounds_is HN.out HA0.out HB0.out, h]⟩
      exact ⟨_, rfl, by rw [HE.out]; exact HR.out.mono (by omega), HB.out⟩

set_option maxHeartbeats 1000000 in
set_option maxRecDepth 20000 in
theorem f63_pp (c : Cfg) (f b : Int) (f0 : -9223372036854775808 ≤ f) (f1 : f ≤ 9223372036854775807) (b0' : -9223372036854775808 ≤ b) (b1 : b ≤ 9223372036854775807) (h : 0 < countP c) (hsf : 0 ≤ f) (hsb : 0 ≤ b) (w : World) :
    Calls Try.prog 63 #[cv c, .int .i64 f, .int .i64 b] w fun e w' => ∃ v, e = .returned v ∧ Row w' w.heap.size v (roundsP c f b) ∧ Below w.heap.size w w' := by
  have hcb := count_bd c
  obtain ⟨N, hN⟩ : ∃ N : Nat, countP c = (N : Int) := ⟨(countP c).toNat, by omega⟩
  rw [hN] at hcb h
  have hN1 : 1 ≤ N := by omega
  have hN2 : N ≤ 389120 := by omega
  have hm1 : (1 : Int) ≤ (N : Int) := by omega
  have hm2 : (N : Int) ≤ 400000 := by omega
  obtain ⟨a0, HA0⟩ : ∃ a : Nat, Hd (rndI f % (N : Int) = (a : Int)) := ⟨(rndI f % (N : Int)).toNat, ⟨by have := Int.emod_nonneg (rndI f) (show (N : Int) ≠ 0 by omega); omega⟩⟩
  obtain ⟨b0, HB0⟩ : ∃ a : Nat, Hd (rndI b % (N : Int) = (a : Int)) := ⟨(rndI b % (N : Int)).toNat, ⟨by have := Int.emod_nonneg (rndI b) (show (N : Int) ≠ 0 by omega); omega⟩⟩
  have ha0 : a0 < N := by have := Int.emod_lt_of_pos (rndI f) (show 0 < (N : Int) by omega); rw [HA0.out] at this; omega
  have hb0 : b0 < N := by have := Int.emod_lt_of_pos (rndI b) (show 0 < (N : Int) by omega); rw [HB0.out] at this; omega
  have HN := Hd.mk hN
  have hz : ((N : Int) == 0) = false := by rw [beq_eq_false_iff_ne]; omega
  have hmk := run_make_row' (P := Try.prog) 66 4 (.bool false) 1 Try.underlying66 info4 rfl .i64 .i64 N (by omega) (by omega)
  clear hN hcb h
  have e1f : f % (N : Int) = (a0 : Int) := by have h := HA0.out; unfold rndI at h; rw [if_neg (by omega)] at h; exact h
  have e1b : b % (N : Int) = (b0 : Int) := by have h := HB0.out; unfold rndI at h; rw [if_neg (by omega)] at h; exact h
  go_enter Try.func63, Try.ntmps63
  go_wp2_with fail
  refine (f55_is c (N : Int) HN.out _).mono ?_
  rintro e w1 ⟨rfl, hb1⟩
  have S1 := keepS hb1 (s0 c w)
  clear hb1
  have HAD : Hd ((w1.alloc (.cells (madeCells #[.bool false] N) 4)).rowIs w1.heap.size 4 N (fun j => .bool false)) := ⟨World.rowIs_made w1 (.bool false) N 4⟩
  have BB : Hd (Below w.heap.size w (w1.alloc (.cells (madeCells #[.bool false] N) 4))) := ⟨balloc (sB S1) _⟩
  obtain ⟨g, hg⟩ : ∃ g, w1.heap.size = g := ⟨_, rfl⟩
  have hgw : w.heap.size < g := by rw [← hg]; exact S1.2.2.2.2.2.2.2.2.2.1
  rw [hg] at HAD
  clear S1
  go_wp2_with fail
  clear hg
  generalize (w1.alloc (.cells (madeCells #[.bool false] N) 4)) = w2 at HAD BB ⊢
  have HA9 := Hd.mk e1f
  clear hmk e1f e1b 
  go_loopw [8, 10] (fun a v W => ∃ k : Nat, RelR N (1 + b0) a0 w g a v W k) (fun _ v _ => N - lenOf v)
  case atStart => exact ⟨0, ⟨by omega, by first | rfl | (rw [HA9.out]; rfl), Row.nil_ _ _, HAD.out, BB.out⟩⟩
  case round =>
    obtain ⟨k, ⟨hk, rfl, hrow, hhad, hbw⟩⟩ := hrel
    have hinv := run_inv (s := 1 + b0) ha0 k hk
    rcases hσ : runR N (1 + b0) a0 k with ⟨had0, pos0, l0⟩
    rw [hσ] at hrow hhad hinv
    have HSI := Hd.mk hσ
    have hp0 : pos0 < N := hinv.pos
    have hl0 : l0.length = k := hinv.len
    have HI := Hd.mk hinv
    have HR : Hd (Row _ (g + 1) _ (l0.map Int.ofNat)) := ⟨hrow⟩
    have HH := Hd.mk hhad
    have HB := Hd.mk hbw
    have HL := Hd.mk hl0
    clear hinv hrow hhad hbw hl0 HAD BB hσ
    obtain ⟨A, cap, hv, hcap, -⟩ := HR.out.rd
    rw [List.length_map, HL.out] at hv
    subst hv
    by_cases hlt : k < N
    · obtain ⟨hpn, hpf, hsl⟩ := inv_next HI.out hlt
      obtain ⟨p, HP⟩ : ∃ p, Hd (nextP N ⟨had0, pos0, l0⟩ = p) := ⟨_, ⟨rfl⟩⟩
      rw [HP.out] at hpn hpf
      have HPF := Hd.mk hpf
      have HSL : Hd (seekD had0 N N pos0 < N) := ⟨hsl⟩
      clear hpf hsl
      have hbk : decide ((k : Int) < (N : Int)) = true := decide_eq_true (by omega)
      go_wp2_with fail
      go_loop [8] (fun a => ∃ c : Nat, c < N ∧ a = .int .i64 (c : Int) ∧ Hd ((c + seekD had0 N N c) % N = p) ∧ Hd (seekD had0 N N c < N)) (fun a => seekD had0 N N (intOf a).toNat)
      case atStart => exact ⟨pos0, hp0, rfl, ⟨HP.out⟩, HSL⟩
      case round =>
        obtain ⟨c, hc, rfl, HC, HCL⟩ := hrel
        have i0 : (0 : Int) ≤ (c : Int) := by omega
        have i1 : (c : Int) < (N : Int) := by omega
        rcases hh : had0 c with _ | _
        · have hcell : wr.cell? ⟨g, c, none⟩ = some (.bool false) := by have h := HH.out.cell hc; simp only [hh] at h; exact h
          have hfz := HH.out.frozen c
          have hcp : c = p := by have h := HC.out; rw [seek_here hc hh, Nat.add_zero, Nat.mod_eq_of_lt hc] at h; exact h
          have HCP := Hd.mk hcp
          have HRS := Hd.mk (HR.out.setOther (g := g) (j := c) (u := .bool true) (by omega))
          have HHS := Hd.mk (HH.out.set c (.bool true))
          have hgz := HHS.out.lt
          have BS : Hd (Below w.heap.size w (wr.setCell ⟨g, c, none⟩ (.bool true))) := ⟨bset HB.out (by show w.heap.size ≤ g; omega) _⟩
          clear hcp hh HH
          go_wp2_with (at_builtin; refine wpList_app1 rfl (.tmp 49) (.tmp 51) rfl (g + 1) _ _ rfl _ rfl (c : Int) (HRS.out.alloc _) (new_cell (by simp)) (by rw [List.length_map, HL.out]; omega) (by simp at hgz ⊢; omega) ?_; intro v' W2 hr2 hg2)
          have HR2 := Hd.mk hr2
          have HH2 := Hd.mk (rowIs_grown (HHS.out.alloc _) (HRS.out.alloc _) (by omega) hg2)
          have B2 := Hd.mk ((balloc BS.out _).grown hg2 (balloc BS.out _).size (fun q hq => by have h1 := ((HRS.out.alloc (.cells #[.int .i64 (c : Int)] 3)).lt q hq).1; have h2 := hgw; omega))
          clear hr2 hg2 HRS HHS BS hgz
          go_roundw
          case rel => exact ⟨k + 1, ⟨by omega, by rw [runR, HSI.out]; show _ = Value.int .i64 (((nextP N ⟨had0, pos0, l0⟩ + (1 + b0)) % N : Nat) : Int); rw [HP.out, ← HCP.out]; exact mod_c _ _ _ _ (by omega), by rw [runR, HSI.out]; show Row _ _ _ ((l0 ++ [nextP N ⟨had0, pos0, l0⟩]).map Int.ofNat); rw [HP.out, ← HCP.out, List.map_append]; exact HR2.out, by rw [runR, HSI.out]; refine HH2.out.congr fun i _ => ?_; show _ = Value.bool (setT had0 (nextP N ⟨had0, pos0, l0⟩) i); rw [HP.out, ← HCP.out]; unfold setT; split <;> rfl, B2.out⟩⟩
          case measure =>
            obtain ⟨A', cap', hv', -, -⟩ := HR2.out.rd
            rw [List.length_append, List.length_map, HL.out] at hv'
            rw [hv']
            simp [lenOf]; omega
        · have hcell : wr.cell? ⟨g, c, none⟩ = some (.bool true) := by have h := HH.out.cell hc; simp only [hh] at h; exact h
          have hlt2 : seekD had0 N N ((c + 1) % N) < N := seek_lt (Nat.mod_lt _ (by omega)) hpn HPF.out
          have HST := Hd.mk (seek_step hc hh hlt2)
          have HL2 := Hd.mk hlt2
          clear hh hlt2
          go_wp2
          go_round
          case rel => exact ⟨(c + 1) % N, Nat.mod_lt _ (by omega), mod_c c N 1 1 rfl, ⟨by rw [← HST.out.2]; exact HC.out⟩, HL2⟩
          case measure => simp only [intOf]; rw [mod_n]; have := HST.out.1; simp at this ⊢; omega
    · have hkN : k = N := by omega
      have HKN := Hd.mk hkN
      clear hkN
      go_wp2
      go_ret
      have HE : Hd (roundsP c f b = l0.map Int.ofNat) := ⟨by
        have h := HSI.out
        rw [HKN.out] at h
        rw [rounds_is HN.out HA0.out HB0.out, h]⟩
      exact ⟨_, rfl, by rw [HE.out]; exact HR.out.mono (by omega), HB.out⟩

theorem f63_any (c : Cfg) (f b : Int) (f0 : -9223372036854775808 ≤ f) (f1 : f ≤ 9223372036854775807) (b0' : -9223372036854775808 ≤ b) (b1 : b ≤ 9223372036854775807) (w : World) : Calls Try.prog 63 #[cv c, .int .i64 f, .int .i64 b] w fun e w' => ∃ v, e = .returned v ∧ Row w' w.heap.size v (roundsP c f b) ∧ Below w.heap.size w w' := by
  by_cases h : countP c = 0
  · exact f63_no c f b f0 f1 b0' b1 h w
  · have h0 : 0 < countP c := by have := count_bd c; omega
    by_cases hf : f < 0
    · by_cases hb : b < 0
      · exact f63_nn c f b f0 f1 b0' b1 h0 hf hb w
      · exact f63_np c f b f0 f1 b0' b1 h0 hf (by omega) w
    · by_cases hb : b < 0
      · exact f63_pn c f b f0 f1 b0' b1 h0 (by omega) hb w
      · exact f63_pp c f b f0 f1 b0' b1 h0 (by omega) (by omega) w

end Go.Proofs.Ytnbogjiddildaaa
