/- The walks of the program's functions and the plain proofs for this claim, merged by a program; each theorem says what it says, no conditions beyond those stated. -/
import Derived.Test.YtcbdgknfkoodoaaKC0
import Derived.Test.YtcbdgknfkoodoaaKC1
import Derived.Test.YtcbdgknfkoodoaaKC2
namespace Go.Proofs.Ytcbdgknfkoodoaa.F
open Go.RowKit Go.Proofs.YtcbdgknfkoodoaaW.PrintWords Go.Proofs.YtcbdgknfkoodoaaW.PrintLast Go.Proofs.YtcbdgknfkoodoaaW.PrintMore
attribute [local go_sem] max2_int min2_int max_two min_two max_three min_three max_four min_four   
set_option linter.unusedVariables false
set_option linter.unusedSimpArgs false
def crossbarref05_Read.l0 : Nat → List Int → Int → Int → Bool → Bool → Bool → Int → Int → Int → Int → List Int → Option (Bool × Bool × Bool × Int × Int × Int × Int × List Int × Int × Int)
 | 0, _, _, _, _, _, _, _, _, _, _, _ => none
 | k + 1, x0, x5, x7, x363000, x363001, x363002, x363003, x363004, x363005, x363006, x363007 => if x7 < x5 then ((crossbarref05_Num.f k x0 (wrap64 (12 + (wrap64 (4 * x7)))) 4).bind fun t368 => (if x363007.length < 35184372088832 then (crossbarref05_Read.l0 k x0 x5 (wrap64 (x7 + 1)) x363000 x363001 x363002 x363003 x363004 x363005 x363006 (x363007 ++ [t368])) else (none))) else (some (x363000, x363001, x363002, x363003, x363004, x363005, x363006, x363007, wrap64 (12 + (wrap64 (4 * x5))), 0))
def crossbarref05_Read.f (k : Nat) (l0 : List Int) : Option (Bool × Bool × Bool × Int × Int × Int × Int × List Int × Int × Int) := if (l0.length : Int) < 12 then (some (false, false, false, 0, 0, 0, 0, ([] : List Int), 0, 2)) else (if 0 < (l0.length : Int) then (if ((Int.tdiv (rd l0 0) 64) % 256) = 2 then (if (l0.length : Int) < (wrap64 (12 + (wrap64 (4 * (wrap64 (Int.tmod (rd l0 0) 16)))))) then (some (false, false, false, 0, 0, 0, 0, ([] : List Int), 0, 2)) else (if 1 < (l0.length : Int) then ((crossbarref05_Num.f k l0 2 2).bind fun t365 => ((crossbarref05_Num.f k l0 4 4).bind fun t366 => ((crossbarref05_Num.f k l0 8 4).bind fun t367 => (crossbarref05_Read.l0 k l0 (wrap64 (Int.tmod (rd l0 0) 16)) 0 ((((Int.tdiv (rd l0 0) 32) % 256) % 2) == 1) ((((Int.tdiv (rd l0 0) 16) % 256) % 2) == 1) (decide ((rd l0 1) ≥ 128)) (wrap64 (Int.tmod (rd l0 1) 128)) (IntKind.u16.wrap (t365)) t366 t367 ([] : List Int))))) else (none))) else (some (false, false, false, 0, 0, 0, 0, ([] : List Int), 0, 3))) else (none))
def crossbarref05_Read.T8 : Bool × List (List Nat × List Nat) := (true, [([], []), ([0], [0]), ([1], [1]), ([2], [2]), ([3], [3]), ([], []), ([5], [5]), ([6], [6]), ([7], [7]), ([4, 8], [4, 8]), ([], []), ([10, 9, 0, 1, 2, 3, 4, 5, 6, 7, 8, 9, 10], [9, 10])])
def crossbarref05_Read.B8 : List Nat := [0, 1, 3, 7, 15, 0, 32, 96, 224, 511, 0, 2047]
theorem crossbarref05_Read.tab8 : rtab .any (opsOf Try.f42 8) = crossbarref05_Read.T8 := by kernel_rfl
theorem crossbarref05_Read.bits8 : waitsOk crossbarref05_Read.T8.2 crossbarref05_Read.B8 = true := by kernel_rfl
def crossbarref05_Read.T17 : Bool × List (List Nat × List Nat) := (true, [([], []), ([0], [0]), ([], []), ([], []), ([3], [3]), ([4], [4]), ([2, 5], [2, 5]), ([6], [6]), ([1, 7, 6], [1, 7]), ([0, 1, 2, 3, 4, 5, 6, 7, 8], []), ([9, 8, 8, 0, 1, 2, 3, 4, 5, 6, 7, 8], [8, 9])])
def crossbarref05_Read.B17 : List Nat := [0, 1, 0, 0, 8, 24, 60, 124, 255, 511, 1023]
theorem crossbarref05_Read.tab17 : rtab .any (opsOf Try.f42 17) = crossbarref05_Read.T17 := by kernel_rfl
theorem crossbarref05_Read.bits17 : waitsOk crossbarref05_Read.T17.2 crossbarref05_Read.B17 = true := by kernel_rfl
set_option maxHeartbeats 8000000 in
set_option maxRecDepth 100000 in
theorem crossbarref05_Read.calls (k : Nat) (A0 : Option Addr) (c0 : Nat) (l0 : List Int) (r1 : Bool) (r2 : Bool) (r3 : Bool) (r4 : Int) (r5 : Int) (r6 : Int) (r7 : Int) (r8 : List Int) (r9 : Int) (r10 : Int) (w : World) (hr0 : Kd.C (Kd.int .u8) w A0 l0.length l0) (hc0 : l0.length ≤ c0) (h : crossbarref05_Read.f k l0 = some (r1, r2, r3, r4, r5, r6, r7, r8, r9, r10)) :
  Calls Try.prog 42 #[.slice A0 l0.length c0] w fun e w' => ∃ v7_ : Value, e = .returned (.tuple #[.agg #[.bool r1, .bool r2, .bool r3, .int .i64 r4, .int .u16 r5, .int .u32 r6, .int .u32 r7, v7_], .int .i64 r9, .int .i64 r10]) ∧ Kd.R (Kd.int .u32) 40 w' w.heap.size (fun _ => True) v7_ r8 ∧ Below w.heap.size w w' := by
 have hu43 := Try.underlying43
 have HR0 := Aside0.mk hr0
 have HC0 := Aside0.mk hc0
 clear hr0 hc0
 have HB := Aside0.mk (Below.refl w.heap.size w)
 have H : (if (l0.length : Int) < 12 then (some (false, false, false, 0, 0, 0, 0, ([] : List Int), 0, 2)) else (if 0 < (l0.length : Int) then (if ((Int.tdiv (rd l0 0) 64) % 256) = 2 then (if (l0.length : Int) < (wrap64 (12 + (wrap64 (4 * (wrap64 (Int.tmod (rd l0 0) 16)))))) then (some (false, false, false, 0, 0, 0, 0, ([] : List Int), 0, 2)) else (if 1 < (l0.length : Int) then ((crossbarref05_Num.f k l0 2 2).bind fun t365 => ((crossbarref05_Num.f k l0 4 4).bind fun t366 => ((crossbarref05_Num.f k l0 8 4).bind fun t367 => (crossbarref05_Read.l0 k l0 (wrap64 (Int.tmod (rd l0 0) 16)) 0 ((((Int.tdiv (rd l0 0) 32) % 256) % 2) == 1) ((((Int.tdiv (rd l0 0) 16) % 256) % 2) == 1) (decide ((rd l0 1) ≥ 128)) (wrap64 (Int.tmod (rd l0 1) 128)) (IntKind.u16.wrap (t365)) t366 t367 ([] : List Int))))) else (none))) else (some (false, false, false, 0, 0, 0, 0, ([] : List Int), 0, 3))) else (none))) = some (r1, r2, r3, r4, r5, r6, r7, r8, r9, r10) := h
 clear h
 by_cases c2 : (l0.length : Int) < 12
 ·rw [if_pos c2] at H
  have c2b0 : decide ((l0.length : Int) < 12) = true := decide_eq_true c2
  have c2b1 : decide (l0.length < 12) = true := decide_eq_true (by omega)
  clear c2
  simp only [Option.some.injEq, Prod.mk.injEq] at H
  obtain ⟨rfl, rfl, rfl, rfl, rfl, rfl, rfl, rfl, rfl, rfl⟩ := H
  go_enter Try.func42, Try.ntmps42
  go_wp2_with (first | ((with_reducible refine gate_dst (N := 2) rfl ?_); refine box_event ?hg (N := 2) ?hd (cs := #[.bool false, .bool false, .bool false, .int .i64 0, .int .u16 0, .int .u32 0, .int .u32 0, .slice none 0 0]) (t := 43) ?hr ?_; (case hd => rfl); (case hg => rfl); (case hr => first | (go_simp; done) | (go_simp; rfl)); intro gb357 hg w3 hbox hb; have n0_ := bstE HB hb; have BK357 := Aside0.mk (hbox); have GW357 := geE hg HB; have GE357 := geE hg HB; clear HB; have HB := n0_; clear n0_; clear hb hbox hg; obtain ⟨Z4_0, Z4_1, Z4_2, Z4_3, Z4_4, Z4_5, Z4_6, Z4_7, Y4_0, Y4_1, Y4_2, Y4_3, Y4_4, Y4_5, Y4_6, Y4_7⟩ := bc8 BK357.out) | ((with_reducible refine gate_store (t := 43) (p := 2) rfl ?_); refine store_event (t := 43) (p := 2) (v := ?vo_w5) (w1 := ((((((((w3.setCell ⟨gb357, 0, none⟩ (.bool false)).setCell ⟨gb357, 1, none⟩ (.bool false)).setCell ⟨gb357, 2, none⟩ (.bool false)).setCell ⟨gb357, 3, none⟩ (.int .i64 0)).setCell ⟨gb357, 4, none⟩ (.int .u16 0)).setCell ⟨gb357, 5, none⟩ (.int .u32 0)).setCell ⟨gb357, 6, none⟩ (.int .u32 0)).setCell ⟨gb357, 7, none⟩ (.slice none 0 0))) ?hg ?ho ?hn ?hr ?_; (case ho => rfl); (case hg => rfl); (case hn => rfl); (case hr => first | (go_simp; done) | (go_simp; rfl)); intro w5 hw; replace BK357 : Aside0 (w5.heap[gb357]? = some (.cells #[.bool false, .bool false, .bool false, .int .i64 0, .int .u16 0, .int .u32 0, .int .u32 0, .slice none 0 0] 43 (0, 0))) := ⟨by rw [hw]; apply puts8; exact BK357.out⟩; replace HB := bsE hw HB GE357; clear hw))
  refine bodyPost_ret (results_ctt rfl _ _ gb357 43 #[.bool false, .bool false, .bool false, .int .i64 0, .int .u16 0, .int .u32 0, .int .u32 0, .slice none 0 0] (0, 0) _ rfl (pk BK357) Try.underlying43 rfl (by kernel_rfl)) rfl ?_
  exact ⟨_, by first | rfl | (simp [errW_none, errW_some] <;> rfl) | (simp [*, errW_none, errW_some] <;> rfl), by first | exact Kd.R_nil _ _ _ _ _ | exact Kd.N_nil _ _ _ _ _ | exact Kd.V_nil _ _ _ _ _ | exact Kd.Q_nil _ _ _ _ _ | exact Kd.S_nil _ _ _ _ _, by repeat (first | (with_reducible first | exact HB.out | apply below_alloc | apply pw_below_drewN | apply below_drew1 | refine below_set ?_ GE357.out) | exact HB.out)⟩
 rw [if_neg c2] at H
 have c2b0 : decide ((l0.length : Int) < 12) = false := decide_eq_false c2
 have c2b1 : decide (l0.length < 12) = false := decide_eq_false (by omega)
 clear c2
 by_cases c6 : 0 < (l0.length : Int)
 ·rw [if_pos c6] at H
  have c6b0 : decide (0 < (l0.length : Int)) = true := decide_eq_true c6
  have c6b1 : decide (0 < l0.length) = true := decide_eq_true (by omega)
  clear c6
  by_cases c7 : ((Int.tdiv (rd l0 0) 64) % 256) = 2
  ·rw [if_pos c7] at H
   have c7b0 : (((Int.tdiv (rd l0 0) 64) % 256) == 2) = true := beq_iff_eq.mpr c7
   have c7b1 : (((Int.tdiv (rd l0 0) 64) % 256) != 2) = false := bne_eq_false_iff_eq.mpr c7
   clear c7
   by_cases c8 : (l0.length : Int) < (wrap64 (12 + (wrap64 (4 * (wrap64 (Int.tmod (rd l0 0) 16))))))
   ·rw [if_pos c8] at H
    have c8b0 : decide ((l0.length : Int) < (wrap64 (12 + (wrap64 (4 * (wrap64 (Int.tmod (rd l0 0) 16))))))) = true := decide_eq_true c8
    clear c8
    simp only [Option.some.injEq, Prod.mk.injEq] at H
    obtain ⟨rfl, rfl, rfl, rfl, rfl, rfl, rfl, rfl, rfl, rfl⟩ := H
    go_enter Try.func42, Try.ntmps42
    go_wp2_with (first | ((with_reducible refine gate_dst (N := 2) rfl ?_); refine box_event ?hg (N := 2) ?hd (cs := #[.bool false, .bool false, .bool false, .int .i64 0, .int .u16 0, .int .u32 0, .int .u32 0, .slice none 0 0]) (t := 43) ?hr ?_; (case hd => rfl); (case hg => rfl); (case hr => first | (go_simp; done) | (go_simp; rfl)); intro gb357 hg w9 hbox hb; have n0_ := bstE HB hb; have BK357 := Aside0.mk (hbox); have GW357 := geE hg HB; have GE357 := geE hg HB; clear HB; have HB := n0_; clear n0_; clear hb hbox hg; have p358 : 0 ≤ (0 : Int) := (by omega); have q358 : 0 < (l0.length : Int) := of_decide_eq_true (by first | (with_reducible assumption) | assumption); obtain ⟨ad358, e358, hx358_0⟩ := Kd.at_int HR0.out 0 p358 q358; cases e358; have qi358 : (0 < l0.length) = True := eq_true (by omega); (try rw [show ((0 : Int)).toNat = 0 from rfl] at hx358_0); (try rw [Addr.add_zero'] at hx358_0); replace hx358_0 := (HB.out.cell (World.block_lt_of_cell? w _ hx358_0)).trans hx358_0; replace p358 := eq_true p358; replace q358 := eq_true q358; have p359 : 0 ≤ (0 : Int) := (by omega); have q359 : 0 < (l0.length : Int) := of_decide_eq_true (by first | (with_reducible assumption) | assumption); obtain ⟨ad359, e359, hx359_0⟩ := Kd.at_int HR0.out 0 p359 q359; obtain rfl : ad358 = ad359 := (by injection e359); have qi359 : (0 < l0.length) = True := eq_true (by omega); (try rw [show ((0 : Int)).toNat = 0 from rfl] at hx359_0); (try rw [Addr.add_zero'] at hx359_0); replace hx359_0 := (HB.out.cell (World.block_lt_of_cell? w _ hx359_0)).trans hx359_0; replace p359 := eq_true p359; replace q359 := eq_true q359; obtain ⟨Z10_0, Z10_1, Z10_2, Z10_3, Z10_4, Z10_5, Z10_6, Z10_7, Y10_0, Y10_1, Y10_2, Y10_3, Y10_4, Y10_5, Y10_6, Y10_7⟩ := bc8 BK357.out) | ((with_reducible refine gate_store (t := 43) (p := 2) rfl ?_); refine store_event (t := 43) (p := 2) (v := ?vo_w11) (w1 := ((((((((w9.setCell ⟨gb357, 0, none⟩ (.bool false)).setCell ⟨gb357, 1, none⟩ (.bool false)).setCell ⟨gb357, 2, none⟩ (.bool false)).setCell ⟨gb357, 3, none⟩ (.int .i64 0)).setCell ⟨gb357, 4, none⟩ (.int .u16 0)).setCell ⟨gb357, 5, none⟩ (.int .u32 0)).setCell ⟨gb357, 6, none⟩ (.int .u32 0)).setCell ⟨gb357, 7, none⟩ (.slice none 0 0))) ?hg ?ho ?hn ?hr ?_; (case ho => rfl); (case hg => rfl); (case hn => rfl); (case hr => first | (go_simp; done) | (go_simp; rfl)); intro w11 hw; replace BK357 : Aside0 (w11.heap[gb357]? = some (.cells #[.bool false, .bool false, .bool false, .int .i64 0, .int .u16 0, .int .u32 0, .int .u32 0, .slice none 0 0] 43 (0, 0))) := ⟨by rw [hw]; apply puts8; exact BK357.out⟩; replace HB := bsE hw HB GE357; clear hw))
    refine bodyPost_ret (results_ctt rfl _ _ gb357 43 #[.bool false, .bool false, .bool false, .int .i64 0, .int .u16 0, .int .u32 0, .int .u32 0, .slice none 0 0] (0, 0) _ rfl (pk BK357) Try.underlying43 rfl (by kernel_rfl)) rfl ?_
    exact ⟨_, by first | rfl | (simp [errW_none, errW_some] <;> rfl) | (simp [*, errW_none, errW_some] <;> rfl), by first | exact Kd.R_nil _ _ _ _ _ | exact Kd.N_nil _ _ _ _ _ | exact Kd.V_nil _ _ _ _ _ | exact Kd.Q_nil _ _ _ _ _ | exact Kd.S_nil _ _ _ _ _, by repeat (first | (with_reducible first | exact HB.out | apply below_alloc | apply pw_below_drewN | apply below_drew1 | refine below_set ?_ GE357.out) | exact HB.out)⟩
   rw [if_neg c8] at H
   have c8b0 : decide ((l0.length : Int) < (wrap64 (12 + (wrap64 (4 * (wrap64 (Int.tmod (rd l0 0) 16))))))) = false := decide_eq_false c8
   clear c8
   by_cases c12 : 1 < (l0.length : Int)
   ·rw [if_pos c12] at H
    have c12b0 : decide (1 < (l0.length : Int)) = true := decide_eq_true c12
    have c12b1 : decide (1 < l0.length) = true := decide_eq_true (by omega)
    clear c12
    replace H := Option.bind_eq_some_iff.mp H
    obtain ⟨t365, A130, H⟩ := H
    replace H : ((crossbarref05_Num.f k l0 4 4).bind fun t366 => ((crossbarref05_Num.f k l0 8 4).bind fun t367 => (crossbarref05_Read.l0 k l0 (wrap64 (Int.tmod (rd l0 0) 16)) 0 ((((Int.tdiv (rd l0 0) 32) % 256) % 2) == 1) ((((Int.tdiv (rd l0 0) 16) % 256) % 2) == 1) (decide ((rd l0 1) ≥ 128)) (wrap64 (Int.tmod (rd l0 1) 128)) (IntKind.u16.wrap (t365)) t366 t367 ([] : List Int)))) = some (r1, r2, r3, r4, r5, r6, r7, r8, r9, r10) := H
    have A13 := Aside0.mk A130
    clear A130
    replace H := Option.bind_eq_some_iff.mp H
    obtain ⟨t366, A140, H⟩ := H
    replace H : ((crossbarref05_Num.f k l0 8 4).bind fun t367 => (crossbarref05_Read.l0 k l0 (wrap64 (Int.tmod (rd l0 0) 16)) 0 ((((Int.tdiv (rd l0 0) 32) % 256) % 2) == 1) ((((Int.tdiv (rd l0 0) 16) % 256) % 2) == 1) (decide ((rd l0 1) ≥ 128)) (wrap64 (Int.tmod (rd l0 1) 128)) (IntKind.u16.wrap (t365)) t366 t367 ([] : List Int))) = some (r1, r2, r3, r4, r5, r6, r7, r8, r9, r10) := H
    have A14 := Aside0.mk A140
    clear A140
    replace H := Option.bind_eq_some_iff.mp H
    obtain ⟨t367, A150, H⟩ := H
    replace H : (crossbarref05_Read.l0 k l0 (wrap64 (Int.tmod (rd l0 0) 16)) 0 ((((Int.tdiv (rd l0 0) 32) % 256) % 2) == 1) ((((Int.tdiv (rd l0 0) 16) % 256) % 2) == 1) (decide ((rd l0 1) ≥ 128)) (wrap64 (Int.tmod (rd l0 1) 128)) (IntKind.u16.wrap (t365)) t366 t367 ([] : List Int)) = some (r1, r2, r3, r4, r5, r6, r7, r8, r9, r10) := H
    have A15 := Aside0.mk A150
    clear A150
    have H' := Aside0.mk H
    clear H
    go_enter Try.func42, Try.ntmps42
    try go_wp2_with (first | ((with_reducible refine gate_dst (N := 2) rfl ?_); refine box_event ?hg (N := 2) ?hd (cs := #[.bool false, .bool false, .bool false, .int .i64 0, .int .u16 0, .int .u32 0, .int .u32 0, .slice none 0 0]) (t := 43) ?hr ?_; (case hd => rfl); (case hg => rfl); (case hr => first | (go_simp; done) | (go_simp; rfl)); intro gb357 hg w16 hbox hb; have n0_ := bstE HB hb; have BK357 := Aside0.mk (hbox); have GW357 := geE hg HB; have GE357 := geE hg HB; clear HB; have HB := n0_; clear n0_; clear hb hbox hg; have p358 : 0 ≤ (0 : Int) := (by omega); have q358 : 0 < (l0.length : Int) := of_decide_eq_true (by first | (with_reducible assumption) | assumption); obtain ⟨ad358, e358, hx358_0⟩ := Kd.at_int HR0.out 0 p358 q358; cases e358; have qi358 : (0 < l0.length) = True := eq_true (by omega); (try rw [show ((0 : Int)).toNat = 0 from rfl] at hx358_0); (try rw [Addr.add_zero'] at hx358_0); replace hx358_0 := (HB.out.cell (World.block_lt_of_cell? w _ hx358_0)).trans hx358_0; replace p358 := eq_true p358; replace q358 := eq_true q358; have p359 : 0 ≤ (0 : Int) := (by omega); have q359 : 0 < (l0.length : Int) := of_decide_eq_true (by first | (with_reducible assumption) | assumption); obtain ⟨ad359, e359, hx359_0⟩ := Kd.at_int HR0.out 0 p359 q359; obtain rfl : ad358 = ad359 := (by injection e359); have qi359 : (0 < l0.length) = True := eq_true (by omega); (try rw [show ((0 : Int)).toNat = 0 from rfl] at hx359_0); (try rw [Addr.add_zero'] at hx359_0); replace hx359_0 := (HB.out.cell (World.block_lt_of_cell? w _ hx359_0)).trans hx359_0; replace p359 := eq_true p359; replace q359 := eq_true q359))
    replace BK357 := Aside0.mk (blk_drew BK357.out)
    replace HB := Aside0.mk (below_drew1 HB.out)
    have p360 : 0 ≤ (1 : Int) := (by omega)
    have q360 : 1 < (l0.length : Int) := of_decide_eq_true (by first | (with_reducible assumption) | assumption)
    obtain ⟨ad360, e360, hx360_0⟩ := Kd.at_int HR0.out 1 p360 q360
    have hw360_0 := hx360_0
    (try rw [show ((1 : Int)).toNat = 1 from rfl] at hw360_0)
    (try rw [show 1 * 1 = 1 from rfl] at hw360_0)
    (try simp only [Nat.reduceMul, Nat.reduceEqDiff, Go.Addr.add, ↓reduceIte] at hw360_0)
    obtain rfl : ad358 = ad360 := (by injection e360)
    (try simp only [show (1 : Int).toNat = 1 from rfl, Nat.reduceMul, Nat.reduceEqDiff, Go.Addr.add, ↓reduceIte] at hx360_0)
    have qi360 : (1 < l0.length) = True := eq_true (by omega)
    (try rw [show ((1 : Int)).toNat = 1 from rfl] at hx360_0)
    replace hx360_0 := (HB.out.cell (World.block_lt_of_cell? w _ hx360_0)).trans hx360_0
    replace p360 := eq_true p360
    replace q360 := eq_true q360
    have p361 : 0 ≤ (1 : Int) := (by omega)
    have q361 : 1 < (l0.length : Int) := of_decide_eq_true (by first | (with_reducible assumption) | assumption)
    obtain ⟨ad361, e361, hx361_0⟩ := Kd.at_int HR0.out 1 p361 q361
    have hw361_0 := hx361_0
    (try rw [show ((1 : Int)).toNat = 1 from rfl] at hw361_0)
    (try rw [show 1 * 1 = 1 from rfl] at hw361_0)
    (try simp only [Nat.reduceMul, Nat.reduceEqDiff, Go.Addr.add, ↓reduceIte] at hw361_0)
    obtain rfl : ad358 = ad361 := (by injection e361)
    (try simp only [show (1 : Int).toNat = 1 from rfl, Nat.reduceMul, Nat.reduceEqDiff, Go.Addr.add, ↓reduceIte] at hx361_0)
    have qi361 : (1 < l0.length) = True := eq_true (by omega)
    (try rw [show ((1 : Int)).toNat = 1 from rfl] at hx361_0)
    replace hx361_0 := (HB.out.cell (World.block_lt_of_cell? w _ hx361_0)).trans hx361_0
    replace p361 := eq_true p361
    replace q361 := eq_true q361
    refine start_ (n := 12) (S := fun w' => w'.cell? ⟨ad358.block, ad358.off + 1, none⟩ = some (.int .u8 (rd l0 1)) ∧ w'.cell? ⟨ad358.block, ad358.off + 1, none⟩ = some (.int .u8 (rd l0 1))) (ds := []) #[false, false, false, false, false, false, false, false, false, false, false, false] (by kernel_rfl) rfl rfl ⟨((HB.out.cell (World.block_lt_of_cell? w _ hw360_0)).trans hw360_0), ((HB.out.cell (World.block_lt_of_cell? w _ hw361_0)).trans hw361_0)⟩ (fun hHeld => ?_); refine with_tabW crossbarref05_Read.tab8 crossbarref05_Read.bits8 (fun HT_ HW_ => ?_)
    generalize w16.drew = w17 at BK357 HB hx360_0 hx361_0 hHeld ⊢
    refine pure_ (i := 0) (N := some 30) (v := ?_) (a' := ?_) #[true, false, false, false, false, false, false, false, false, false, false, false] rfl rfl (any_of HT_.out (by kernel_rfl)) (fun _ _ _ h => h) (Or.inl ⟨by rfl, ?_⟩) ?_ ?_
    rotate_left
    ·intro w'
     go_simp
     with_reducible rfl
    rotate_left
    ·simp only [Act.put, List.setIfInBounds_toArray, List.set_cons_zero, List.set_cons_succ, i64_w, i32_w]
     rfl
    refine pure_ (i := 1) (N := some 31) (v := ?_) (a' := ?_) #[true, true, false, false, false, false, false, false, false, false, false, false] rfl rfl (any_of HT_.out (by kernel_rfl)) (fun _ _ _ h => h) (Or.inl ⟨by rfl, ?_⟩) ?_ ?_
    rotate_left
    ·intro w'
     go_simp
     with_reducible rfl
    rotate_left
    ·simp only [Act.put, List.setIfInBounds_toArray, List.set_cons_zero, List.set_cons_succ, i64_w, i32_w]
     rfl
    refine pure_ (i := 5) (N := some 35) (v := ?_) (a' := ?_) #[true, true, false, false, false, true, false, false, false, false, false, false] rfl rfl (any_of HT_.out (by kernel_rfl)) (fun _ _ _ h => h) (Or.inl ⟨by rfl, ?_⟩) ?_ ?_
    rotate_left
    ·intro w'
     go_simp
     with_reducible rfl
    rotate_left
    ·simp only [Act.put, List.setIfInBounds_toArray, List.set_cons_zero, List.set_cons_succ, i64_w, i32_w]
     rfl
    refine pure_ (i := 6) (N := some 36) (v := ?_) (a' := ?_) #[true, true, false, false, false, true, true, false, false, false, false, false] rfl rfl (any_of HT_.out (by kernel_rfl)) (fun _ _ _ h => h) (Or.inl ⟨by rfl, ?_⟩) ?_ ?_
    rotate_left
    ·intro w'
     go_simp
     with_reducible rfl
    rotate_left
    ·simp only [Act.put, List.setIfInBounds_toArray, List.set_cons_zero, List.set_cons_succ, i64_w, i32_w]
     rfl
    refine take_ (i := 2) (N := some 32) (v := ?_) (a' := ?_) #[true, true, true, false, false, true, true, false, false, false, false, false] rfl rfl (take_ofW HT_.out HW_.out (by kernel_rfl)) (fun _ _ _ h => h) (Or.inl ⟨by rfl, ?_⟩) hHeld ?_ ?_
    rotate_left
    ·rintro w' ⟨s0, s1⟩
     go_simp
     with_reducible rfl
    rotate_left
    ·simp only [Act.put, List.setIfInBounds_toArray, List.set_cons_zero, List.set_cons_succ, i64_w, i32_w]
     rfl
    refine pure_ (i := 3) (N := some 33) (v := ?_) (a' := ?_) #[true, true, true, true, false, true, true, false, false, false, false, false] rfl rfl (any_of HT_.out (by kernel_rfl)) (fun _ _ _ h => h) (Or.inl ⟨by rfl, ?_⟩) ?_ ?_
    rotate_left
    ·intro w'
     go_simp
     with_reducible rfl
    rotate_left
    ·simp only [Act.put, List.setIfInBounds_toArray, List.set_cons_zero, List.set_cons_succ, i64_w, i32_w]
     rfl
    refine pure_ (i := 4) (N := some 34) (v := ?_) (a' := ?_) #[true, true, true, true, true, true, true, false, false, false, false, false] rfl rfl (any_of HT_.out (by kernel_rfl)) (fun _ _ _ h => h) (Or.inl ⟨by rfl, ?_⟩) ?_ ?_
    rotate_left
    ·intro w'
     go_simp
     with_reducible rfl
    rotate_left
    ·simp only [Act.put, List.setIfInBounds_toArray, List.set_cons_zero, List.set_cons_succ, i64_w, i32_w]
     rfl
    refine take_ (i := 7) (N := some 37) (v := ?_) (a' := ?_) #[true, true, true, true, true, true, true, true, false, false, false, false] rfl rfl (take_ofW HT_.out HW_.out (by kernel_rfl)) (fun _ _ _ h => h) (Or.inl ⟨by rfl, ?_⟩) hHeld ?_ ?_
    rotate_left
    ·rintro w' ⟨s0, s1⟩
     go_simp
     with_reducible rfl
    rotate_left
    ·simp only [Act.put, List.setIfInBounds_toArray, List.set_cons_zero, List.set_cons_succ, i64_w, i32_w]
     rfl
    refine pure_ (i := 8) (N := some 38) (v := ?_) (a' := ?_) #[true, true, true, true, true, true, true, true, true, false, false, false] rfl rfl (any_of HT_.out (by kernel_rfl)) (fun _ _ _ h => h) (Or.inl ⟨by rfl, ?_⟩) ?_ ?_
    rotate_left
    ·intro w'
     go_simp
     with_reducible rfl
    rotate_left
    ·simp only [Act.put, List.setIfInBounds_toArray, List.set_cons_zero, List.set_cons_succ, i64_w, i32_w]
     rfl
    refine pure_ (i := 9) (N := some 39) (v := ?_) (a' := ?_) #[true, true, true, true, true, true, true, true, true, true, false, false] rfl rfl (any_of HT_.out (by kernel_rfl)) (fun _ _ _ h => h) (Or.inl ⟨by rfl, ?_⟩) ?_ ?_
    rotate_left
    ·intro w'
     go_simp
     with_reducible rfl
    rotate_left
    ·simp only [Act.put, List.setIfInBounds_toArray, List.set_cons_zero, List.set_cons_succ, i64_w, i32_w]
     rfl
    refine one_ (i := 10) (N := some 6) #[true, true, true, true, true, true, true, true, true, true, true, false] rfl rfl (one_of HT_.out (by kernel_rfl)) (by decide) (fun K hK => ?_)
    refine box_step ?hg (N := 6) ?hd (cs := #[.bool false, .bool false, .bool false, .int .i64 0, .int .u16 0, .int .u32 0, .int .u32 0, .slice none 0 0]) (t := 43) ?hr ?_; (case hd => rfl); (case hg => rfl); (case hr => first | (go_simp; done) | (go_simp; rfl))
    intro gb362 hg w18 hbox hb
    have n0_ := bbE BK357 hb
    have n1_ := bstE HB hb
    have BK362 := Aside0.mk (hbox)
    have GW362 := geE hg HB
    have GE362 := geE hg HB
    have NB357_362 := nlE hg BK357
    have NB362_357 := ngE hg BK357
    clear BK357
    clear HB
    have BK357 := n0_
    have HB := n1_
    clear n0_ n1_
    clear hb hbox hg
    refine hK.out _ _ ⟨((HB.out.cell (World.block_lt_of_cell? w _ hw360_0)).trans hw360_0), ((HB.out.cell (World.block_lt_of_cell? w _ hw361_0)).trans hw361_0)⟩ (fun hHeld => ?_)
    clear hK K
    refine norm_ (a' := ?_) ?_ ?_
    rotate_left
    ·show Act.put _ (some 6) _ = _
     simp only [Act.put, List.setIfInBounds_toArray, List.set_cons_zero, List.set_cons_succ, i64_w, i32_w]
     rfl
    refine one_ (i := 11) (N := none) #[true, true, true, true, true, true, true, true, true, true, true, true] rfl rfl (one_of HT_.out (by kernel_rfl)) (by decide) (fun K hK => ?_)
    have hs19 : w18.cell? ⟨gb362, 0, none⟩ = some (.bool false) := (blk_cell BK362.out 0).trans rfl
    have hfs19 := blk_frozen BK362.out 0
    have hns19_0 := NB357_362.out
    have hms19_0 := NB362_357.out
    have hs20 : w18.cell? ⟨gb362, 1, none⟩ = some (.bool false) := (blk_cell BK362.out 1).trans rfl
    have hfs20 := blk_frozen BK362.out 1
    have hns20_0 := NB357_362.out
    have hms20_0 := NB362_357.out
    have hs21 : w18.cell? ⟨gb362, 2, none⟩ = some (.bool false) := (blk_cell BK362.out 2).trans rfl
    have hfs21 := blk_frozen BK362.out 2
    have hns21_0 := NB357_362.out
    have hms21_0 := NB362_357.out
    have hs22 : w18.cell? ⟨gb362, 3, none⟩ = some (.int .i64 0) := (blk_cell BK362.out 3).trans rfl
    have hfs22 := blk_frozen BK362.out 3
    have hns22_0 := NB357_362.out
    have hms22_0 := NB362_357.out
    have hs23 : w18.cell? ⟨gb362, 4, none⟩ = some (.int .u16 0) := (blk_cell BK362.out 4).trans rfl
    have hfs23 := blk_frozen BK362.out 4
    have hns23_0 := NB357_362.out
    have hms23_0 := NB362_357.out
    have hs24 : w18.cell? ⟨gb362, 5, none⟩ = some (.int .u32 0) := (blk_cell BK362.out 5).trans rfl
    have hfs24 := blk_frozen BK362.out 5
    have hns24_0 := NB357_362.out
    have hms24_0 := NB362_357.out
    have hs25 : w18.cell? ⟨gb362, 6, none⟩ = some (.int .u32 0) := (blk_cell BK362.out 6).trans rfl
    have hfs25 := blk_frozen BK362.out 6
    have hns25_0 := NB357_362.out
    have hms25_0 := NB362_357.out
    have hs26 : w18.cell? ⟨gb362, 7, none⟩ = some (.slice none 0 0) := (blk_cell BK362.out 7).trans rfl
    have hfs26 := blk_frozen BK362.out 7
    have hns26_0 := NB357_362.out
    have hms26_0 := NB362_357.out
    refine skip_ (w1 := ?_) (by rfl) rfl ?_ ?_
    rotate_left
    ·go_simp
     rfl
    refine hK.out _ _ ⟨(by (iterate 8 refine (cell_far (p := ⟨gb362, _, none⟩) (by first | exact Nat.ne_of_lt (Nat.lt_of_lt_of_le (by have := World.block_lt_of_cell? _ _ hw360_0; first | rwa [add_block] at this | exact this) GW362.out) | (rw [add_block]; exact Nat.ne_of_lt (Nat.lt_of_lt_of_le (by have := World.block_lt_of_cell? _ _ hw360_0; first | rwa [add_block] at this | exact this) GW362.out)) | (show (Addr.add _ _).block ≠ _; rw [add_block]; exact Nat.ne_of_lt (Nat.lt_of_lt_of_le (by have := World.block_lt_of_cell? _ _ hw360_0; first | rwa [add_block] at this | exact this) GW362.out)) | (dsimp only; exact Nat.ne_of_lt (Nat.lt_of_lt_of_le (by have := World.block_lt_of_cell? _ _ hw360_0; first | rwa [add_block] at this | exact this) GW362.out))) _).trans ?_); exact hHeld.1), (by (iterate 8 refine (cell_far (p := ⟨gb362, _, none⟩) (by first | exact Nat.ne_of_lt (Nat.lt_of_lt_of_le (by have := World.block_lt_of_cell? _ _ hw361_0; first | rwa [add_block] at this | exact this) GW362.out) | (rw [add_block]; exact Nat.ne_of_lt (Nat.lt_of_lt_of_le (by have := World.block_lt_of_cell? _ _ hw361_0; first | rwa [add_block] at this | exact this) GW362.out)) | (show (Addr.add _ _).block ≠ _; rw [add_block]; exact Nat.ne_of_lt (Nat.lt_of_lt_of_le (by have := World.block_lt_of_cell? _ _ hw361_0; first | rwa [add_block] at this | exact this) GW362.out)) | (dsimp only; exact Nat.ne_of_lt (Nat.lt_of_lt_of_le (by have := World.block_lt_of_cell? _ _ hw361_0; first | rwa [add_block] at this | exact this) GW362.out))) _).trans ?_); exact hHeld.2)⟩ (fun hHeld => ?_)
    clear hK K
    refine done_ (done_of HT_.out (by kernel_rfl)) ?_
    have p363 : 0 ≤ (0 : Int) := (by omega)
    have q363 : 0 < (l0.length : Int) := of_decide_eq_true (by first | (with_reducible assumption) | assumption)
    obtain ⟨ad363, e363, hx363_0⟩ := Kd.at_int HR0.out 0 p363 q363
    obtain rfl : ad358 = ad363 := (by injection e363)
    have qi363 : (0 < l0.length) = True := eq_true (by omega)
    (try rw [show ((0 : Int)).toNat = 0 from rfl] at hx363_0)
    (try rw [Addr.add_zero'] at hx363_0)
    have hn363_0 : ad358.block ≠ gb362 := Nat.ne_of_lt (Nat.lt_of_lt_of_le (by have := World.block_lt_of_cell? _ _ hx363_0; first | rwa [add_block] at this | exact this) GW362.out)
    have hn363_1 : ad358.block ≠ gb362 := Nat.ne_of_lt (Nat.lt_of_lt_of_le (by have := World.block_lt_of_cell? _ _ hx363_0; first | rwa [add_block] at this | exact this) GW362.out)
    have hn363_2 : ad358.block ≠ gb362 := Nat.ne_of_lt (Nat.lt_of_lt_of_le (by have := World.block_lt_of_cell? _ _ hx363_0; first | rwa [add_block] at this | exact this) GW362.out)
    have hn363_3 : ad358.block ≠ gb362 := Nat.ne_of_lt (Nat.lt_of_lt_of_le (by have := World.block_lt_of_cell? _ _ hx363_0; first | rwa [add_block] at this | exact this) GW362.out)
    have hn363_4 : ad358.block ≠ gb362 := Nat.ne_of_lt (Nat.lt_of_lt_of_le (by have := World.block_lt_of_cell? _ _ hx363_0; first | rwa [add_block] at this | exact this) GW362.out)
    have hn363_5 : ad358.block ≠ gb362 := Nat.ne_of_lt (Nat.lt_of_lt_of_le (by have := World.block_lt_of_cell? _ _ hx363_0; first | rwa [add_block] at this | exact this) GW362.out)
    have hn363_6 : ad358.block ≠ gb362 := Nat.ne_of_lt (Nat.lt_of_lt_of_le (by have := World.block_lt_of_cell? _ _ hx363_0; first | rwa [add_block] at this | exact this) GW362.out)
    have hn363_7 : ad358.block ≠ gb362 := Nat.ne_of_lt (Nat.lt_of_lt_of_le (by have := World.block_lt_of_cell? _ _ hx363_0; first | rwa [add_block] at this | exact this) GW362.out)
    replace hx363_0 := (HB.out.cell (World.block_lt_of_cell? w _ hx363_0)).trans hx363_0
    replace hx363_0 := (cell_far (p := ⟨gb362, 0, none⟩) (by first | (rw [add_block]; exact hn363_0) | (show (Addr.add _ _).block ≠ _; rw [add_block]; exact hn363_0) | exact hn363_0) (.bool false)).trans hx363_0
    replace hx363_0 := (cell_far (p := ⟨gb362, 1, none⟩) (by first | (rw [add_block]; exact hn363_1) | (show (Addr.add _ _).block ≠ _; rw [add_block]; exact hn363_1) | exact hn363_1) (.bool false)).trans hx363_0
    replace hx363_0 := (cell_far (p := ⟨gb362, 2, none⟩) (by first | (rw [add_block]; exact hn363_2) | (show (Addr.add _ _).block ≠ _; rw [add_block]; exact hn363_2) | exact hn363_2) (.bool (decide ((rd l0 1) ≥ 128)))).trans hx363_0
    replace hx363_0 := (cell_far (p := ⟨gb362, 3, none⟩) (by first | (rw [add_block]; exact hn363_3) | (show (Addr.add _ _).block ≠ _; rw [add_block]; exact hn363_3) | exact hn363_3) (.int .i64 (wrap64 (Int.tmod (rd l0 1) 128)))).trans hx363_0
    replace hx363_0 := (cell_far (p := ⟨gb362, 4, none⟩) (by first | (rw [add_block]; exact hn363_4) | (show (Addr.add _ _).block ≠ _; rw [add_block]; exact hn363_4) | exact hn363_4) (.int .u16 0)).trans hx363_0
    replace hx363_0 := (cell_far (p := ⟨gb362, 5, none⟩) (by first | (rw [add_block]; exact hn363_5) | (show (Addr.add _ _).block ≠ _; rw [add_block]; exact hn363_5) | exact hn363_5) (.int .u32 0)).trans hx363_0
    replace hx363_0 := (cell_far (p := ⟨gb362, 6, none⟩) (by first | (rw [add_block]; exact hn363_6) | (show (Addr.add _ _).block ≠ _; rw [add_block]; exact hn363_6) | exact hn363_6) (.int .u32 0)).trans hx363_0
    replace hx363_0 := (cell_far (p := ⟨gb362, 7, none⟩) (by first | (rw [add_block]; exact hn363_7) | (show (Addr.add _ _).block ≠ _; rw [add_block]; exact hn363_7) | exact hn363_7) (.slice none 0 0)).trans hx363_0
    clear hn363_0
    clear hn363_1
    clear hn363_2
    clear hn363_3
    clear hn363_4
    clear hn363_5
    clear hn363_6
    clear hn363_7
    replace p363 := eq_true p363
    replace q363 := eq_true q363
    have hnb27 := NB362_357.out
    have hnc27 := NB357_362.out
    obtain ⟨Z28_0, Z28_1, Z28_2, Z28_3, Z28_4, Z28_5, Z28_6, Z28_7, Y28_0, Y28_1, Y28_2, Y28_3, Y28_4, Y28_5, Y28_6, Y28_7⟩ := bc8 BK362.out
    try go_wp2_with (first | ((with_reducible refine gate_store (t := 4) (p := 46) rfl ?_); refine store_event (t := 4) (p := 46) (v := ?vo_w29) (w1 := (((((((((w18.setCell ⟨gb362, 0, none⟩ (.bool false)).setCell ⟨gb362, 1, none⟩ (.bool false)).setCell ⟨gb362, 2, none⟩ (.bool (decide ((rd l0 1) ≥ 128)))).setCell ⟨gb362, 3, none⟩ (.int .i64 (wrap64 (Int.tmod (rd l0 1) 128)))).setCell ⟨gb362, 4, none⟩ (.int .u16 0)).setCell ⟨gb362, 5, none⟩ (.int .u32 0)).setCell ⟨gb362, 6, none⟩ (.int .u32 0)).setCell ⟨gb362, 7, none⟩ (.slice none 0 0)).setCell ⟨gb362, 0, none⟩ (.bool ((((Int.tdiv (rd l0 0) 32) % 256) % 2) == 1)))) ?hg ?ho ?hn ?hr ?_; (case ho => rfl); (case hg => rfl); (case hn => rfl); (case hr => first | (go_simp; done) | (go_simp; rfl)); intro w29 hw; replace BK357 := bfE hw BK357 NB357_362; replace BK362 : Aside0 (w29.heap[gb362]? = some (.cells #[.bool ((((Int.tdiv (rd l0 0) 32) % 256) % 2) == 1), .bool false, .bool (decide ((rd l0 1) ≥ 128)), .int .i64 (wrap64 (Int.tmod (rd l0 1) 128)), .int .u16 0, .int .u32 0, .int .u32 0, .slice none 0 0] 43 (0, 0))) := ⟨(by rw [hw]; exact (by (with_reducible repeat (first | refine blk_drewN ?_ _ | refine blk_drew ?_ | refine blk_alloc ?_ _)); refine blk_put (cs := #[.bool false, .bool false, .bool (decide ((rd l0 1) ≥ 128)), .int .i64 (wrap64 (Int.tmod (rd l0 1) 128)), .int .u16 0, .int .u32 0, .int .u32 0, .slice none 0 0]) ?_ 0 _ rfl; apply puts8; (with_reducible repeat (first | refine blk_drewN ?_ _ | refine blk_drew ?_ | refine blk_alloc ?_ _)); exact BK362.out))⟩; replace HB := bsE hw HB GE362; clear hw; have p364 : 0 ≤ (0 : Int) := (by omega); have q364 : 0 < (l0.length : Int) := of_decide_eq_true (by first | (with_reducible assumption) | assumption); obtain ⟨ad364, e364, hx364_0⟩ := Kd.at_int HR0.out 0 p364 q364; obtain rfl : ad358 = ad364 := (by injection e364); have qi364 : (0 < l0.length) = True := eq_true (by omega); (try rw [show ((0 : Int)).toNat = 0 from rfl] at hx364_0); (try rw [Addr.add_zero'] at hx364_0); replace hx364_0 := (HB.out.cell (World.block_lt_of_cell? w _ hx364_0)).trans hx364_0; replace p364 := eq_true p364; replace q364 := eq_true q364; obtain ⟨Z30_0, Z30_1, Z30_2, Z30_3, Z30_4, Z30_5, Z30_6, Z30_7, Y30_0, Y30_1, Y30_2, Y30_3, Y30_4, Y30_5, Y30_6, Y30_7⟩ := bc8 BK362.out) | ((with_reducible refine gate_store (t := 4) (p := 53) rfl ?_); refine store_event (t := 4) (p := 53) (v := ?vo_w31) (w1 := (w29.setCell ⟨gb362, 1, none⟩ (.bool ((((Int.tdiv (rd l0 0) 16) % 256) % 2) == 1)))) ?hg ?ho ?hn ?hr ?_; (case ho => rfl); (case hg => rfl); (case hn => rfl); (case hr => first | (go_simp; done) | (go_simp; rfl)); intro w31 hw; replace BK357 := bfE hw BK357 NB357_362; replace BK362 : Aside0 (w31.heap[gb362]? = some (.cells #[.bool ((((Int.tdiv (rd l0 0) 32) % 256) % 2) == 1), .bool ((((Int.tdiv (rd l0 0) 16) % 256) % 2) == 1), .bool (decide ((rd l0 1) ≥ 128)), .int .i64 (wrap64 (Int.tmod (rd l0 1) 128)), .int .u16 0, .int .u32 0, .int .u32 0, .slice none 0 0] 43 (0, 0))) := ⟨by rw [hw]; exact blk_put BK362.out 1 _ rfl⟩; replace HB := bsE hw HB GE362; clear hw) | ((with_reducible refine gate_callee (f := 43) rfl ?_); refine goesL_ (some 55) rfl rfl Try.func43 (by kernel_rfl) rfl #[.slice (some ad358) l0.length c0, .int .i64 2, .int .i64 2] rfl (by (try simp only [List.map_toArray, List.map_cons, List.map_nil]); first | done | rfl | (simp only [List.length_drop, List.length_take]; rfl)) ?_; (with_reducible refine (crossbarref05_Num.calls k _ _ l0 2 2 t365 _ ?side1 ?side2 A13.out).mono ?_); (case side1 => exact cbE HR0 HB); (case side2 => exact HC0.out); rintro e w' ⟨rfl, ⟨nd, rfl⟩⟩; refine ⟨_, rfl, ?_⟩; (try (rw [drewN_self w31]; generalize hq_ : World.drewN w31 _ = w31; replace BK357 : Aside0 (w31.heap[gb357]? = some (.cells #[.bool false, .bool false, .bool false, .int .i64 0, .int .u16 0, .int .u32 0, .int .u32 0, .slice none 0 0] 43 (0, 0))) := ⟨by rw [← hq_]; exact (pk BK357)⟩; replace BK362 : Aside0 (w31.heap[gb362]? = some (.cells #[.bool ((((Int.tdiv (rd l0 0) 32) % 256) % 2) == 1), .bool ((((Int.tdiv (rd l0 0) 16) % 256) % 2) == 1), .bool (decide ((rd l0 1) ≥ 128)), .int .i64 (wrap64 (Int.tmod (rd l0 1) 128)), .int .u16 0, .int .u32 0, .int .u32 0, .slice none 0 0] 43 (0, 0))) := ⟨by rw [← hq_]; exact (pk BK362)⟩; replace HB : Aside0 (Below w.heap.size w w31) := ⟨by rw [← hq_]; exact (pB HB)⟩; clear hq_)); obtain ⟨Z32_0, Z32_1, Z32_2, Z32_3, Z32_4, Z32_5, Z32_6, Z32_7, Y32_0, Y32_1, Y32_2, Y32_3, Y32_4, Y32_5, Y32_6, Y32_7⟩ := bc8 BK362.out) | ((with_reducible refine gate_store (t := 39) (p := 57) rfl ?_); refine store_event (t := 39) (p := 57) (v := ?vo_w33) (w1 := (w31.setCell ⟨gb362, 4, none⟩ (.int .u16 (IntKind.u16.wrap (t365))))) ?hg ?ho ?hn ?hr ?_; (case ho => rfl); (case hg => rfl); (case hn => rfl); (case hr => first | (go_simp; done) | (go_simp; rfl)); intro w33 hw; replace BK357 := bfE hw BK357 NB357_362; replace BK362 : Aside0 (w33.heap[gb362]? = some (.cells #[.bool ((((Int.tdiv (rd l0 0) 32) % 256) % 2) == 1), .bool ((((Int.tdiv (rd l0 0) 16) % 256) % 2) == 1), .bool (decide ((rd l0 1) ≥ 128)), .int .i64 (wrap64 (Int.tmod (rd l0 1) 128)), .int .u16 (IntKind.u16.wrap (t365)), .int .u32 0, .int .u32 0, .slice none 0 0] 43 (0, 0))) := ⟨by rw [hw]; exact blk_put BK362.out 4 _ rfl⟩; replace HB := bsE hw HB GE362; clear hw) | ((with_reducible refine gate_callee (f := 43) rfl ?_); refine goesL_ (some 59) rfl rfl Try.func43 (by kernel_rfl) rfl #[.slice (some ad358) l0.length c0, .int .i64 4, .int .i64 4] rfl (by (try simp only [List.map_toArray, List.map_cons, List.map_nil]); first | done | rfl | (simp only [List.length_drop, List.length_take]; rfl)) ?_; (with_reducible refine (crossbarref05_Num.calls k _ _ l0 4 4 t366 _ ?side1 ?side2 A14.out).mono ?_); (case side1 => exact cbE HR0 HB); (case side2 => exact HC0.out); rintro e w' ⟨rfl, ⟨nd, rfl⟩⟩; refine ⟨_, rfl, ?_⟩; (try (rw [drewN_self w33]; generalize hq_ : World.drewN w33 _ = w33; replace BK357 : Aside0 (w33.heap[gb357]? = some (.cells #[.bool false, .bool false, .bool false, .int .i64 0, .int .u16 0, .int .u32 0, .int .u32 0, .slice none 0 0] 43 (0, 0))) := ⟨by rw [← hq_]; exact (pk BK357)⟩; replace BK362 : Aside0 (w33.heap[gb362]? = some (.cells #[.bool ((((Int.tdiv (rd l0 0) 32) % 256) % 2) == 1), .bool ((((Int.tdiv (rd l0 0) 16) % 256) % 2) == 1), .bool (decide ((rd l0 1) ≥ 128)), .int .i64 (wrap64 (Int.tmod (rd l0 1) 128)), .int .u16 (IntKind.u16.wrap (t365)), .int .u32 0, .int .u32 0, .slice none 0 0] 43 (0, 0))) := ⟨by rw [← hq_]; exact (pk BK362)⟩; replace HB : Aside0 (Below w.heap.size w w33) := ⟨by rw [← hq_]; exact (pB HB)⟩; clear hq_)); obtain ⟨Z34_0, Z34_1, Z34_2, Z34_3, Z34_4, Z34_5, Z34_6, Z34_7, Y34_0, Y34_1, Y34_2, Y34_3, Y34_4, Y34_5, Y34_6, Y34_7⟩ := bc8 BK362.out) | ((with_reducible refine gate_store (t := 40) (p := 60) rfl ?_); refine store_event (t := 40) (p := 60) (v := ?vo_w35) (w1 := (w33.setCell ⟨gb362, 5, none⟩ (.int .u32 t366))) ?hg ?ho ?hn ?hr ?_; (case ho => rfl); (case hg => rfl); (case hn => rfl); (case hr => first | (go_simp; done) | (go_simp; rfl)); intro w35 hw; replace BK357 := bfE hw BK357 NB357_362; replace BK362 : Aside0 (w35.heap[gb362]? = some (.cells #[.bool ((((Int.tdiv (rd l0 0) 32) % 256) % 2) == 1), .bool ((((Int.tdiv (rd l0 0) 16) % 256) % 2) == 1), .bool (decide ((rd l0 1) ≥ 128)), .int .i64 (wrap64 (Int.tmod (rd l0 1) 128)), .int .u16 (IntKind.u16.wrap (t365)), .int .u32 t366, .int .u32 0, .slice none 0 0] 43 (0, 0))) := ⟨by rw [hw]; exact blk_put BK362.out 5 _ rfl⟩; replace HB := bsE hw HB GE362; clear hw) | ((with_reducible refine gate_callee (f := 43) rfl ?_); refine goesL_ (some 62) rfl rfl Try.func43 (by kernel_rfl) rfl #[.slice (some ad358) l0.length c0, .int .i64 8, .int .i64 4] rfl (by (try simp only [List.map_toArray, List.map_cons, List.map_nil]); first | done | rfl | (simp only [List.length_drop, List.length_take]; rfl)) ?_; (with_reducible refine (crossbarref05_Num.calls k _ _ l0 8 4 t367 _ ?side1 ?side2 A15.out).mono ?_); (case side1 => exact cbE HR0 HB); (case side2 => exact HC0.out); rintro e w' ⟨rfl, ⟨nd, rfl⟩⟩; refine ⟨_, rfl, ?_⟩; (try (rw [drewN_self w35]; generalize hq_ : World.drewN w35 _ = w35; replace BK357 : Aside0 (w35.heap[gb357]? = some (.cells #[.bool false, .bool false, .bool false, .int .i64 0, .int .u16 0, .int .u32 0, .int .u32 0, .slice none 0 0] 43 (0, 0))) := ⟨by rw [← hq_]; exact (pk BK357)⟩; replace BK362 : Aside0 (w35.heap[gb362]? = some (.cells #[.bool ((((Int.tdiv (rd l0 0) 32) % 256) % 2) == 1), .bool ((((Int.tdiv (rd l0 0) 16) % 256) % 2) == 1), .bool (decide ((rd l0 1) ≥ 128)), .int .i64 (wrap64 (Int.tmod (rd l0 1) 128)), .int .u16 (IntKind.u16.wrap (t365)), .int .u32 t366, .int .u32 0, .slice none 0 0] 43 (0, 0))) := ⟨by rw [← hq_]; exact (pk BK362)⟩; replace HB : Aside0 (Below w.heap.size w w35) := ⟨by rw [← hq_]; exact (pB HB)⟩; clear hq_)); obtain ⟨Z36_0, Z36_1, Z36_2, Z36_3, Z36_4, Z36_5, Z36_6, Z36_7, Y36_0, Y36_1, Y36_2, Y36_3, Y36_4, Y36_5, Y36_6, Y36_7⟩ := bc8 BK362.out) | ((with_reducible refine gate_store (t := 40) (p := 63) rfl ?_); refine store_event (t := 40) (p := 63) (v := ?vo_w37) (w1 := (w35.setCell ⟨gb362, 6, none⟩ (.int .u32 t367))) ?hg ?ho ?hn ?hr ?_; (case ho => rfl); (case hg => rfl); (case hn => rfl); (case hr => first | (go_simp; done) | (go_simp; rfl)); intro w37 hw; replace BK357 := bfE hw BK357 NB357_362; replace BK362 : Aside0 (w37.heap[gb362]? = some (.cells #[.bool ((((Int.tdiv (rd l0 0) 32) % 256) % 2) == 1), .bool ((((Int.tdiv (rd l0 0) 16) % 256) % 2) == 1), .bool (decide ((rd l0 1) ≥ 128)), .int .i64 (wrap64 (Int.tmod (rd l0 1) 128)), .int .u16 (IntKind.u16.wrap (t365)), .int .u32 t366, .int .u32 t367, .slice none 0 0] 43 (0, 0))) := ⟨by rw [hw]; exact blk_put BK362.out 6 _ rfl⟩; replace HB := bsE hw HB GE362; clear hw))
    go_loopg [7] k (fun kq v7 w' => ∃ (x7_1 : Int) (x363007_1 : List Int) (u363007 : Value), v7 = .int .i64 x7_1 ∧ Aside0 (crossbarref05_Read.l0 kq l0 (wrap64 (Int.tmod (rd l0 0) 16)) x7_1 ((((Int.tdiv (rd l0 0) 32) % 256) % 2) == 1) ((((Int.tdiv (rd l0 0) 16) % 256) % 2) == 1) (decide ((rd l0 1) ≥ 128)) (wrap64 (Int.tmod (rd l0 1) 128)) (IntKind.u16.wrap (t365)) t366 t367 x363007_1 = some (r1, r2, r3, r4, r5, r6, r7, r8, r9, r10)) ∧ Aside0 (kq ≤ k) ∧ Aside0 (Kd.R (Kd.int .u32) 40 w' w.heap.size (fun _ => True) u363007 x363007_1) ∧ Aside0 (w'.heap[gb357]? = some (.cells #[.bool false, .bool false, .bool false, .int .i64 0, .int .u16 0, .int .u32 0, .int .u32 0, (.slice none 0 0)] 43 (0, 0))) ∧ Aside0 (w'.heap[gb362]? = some (.cells #[.bool ((((Int.tdiv (rd l0 0) 32) % 256) % 2) == 1), .bool ((((Int.tdiv (rd l0 0) 16) % 256) % 2) == 1), .bool (decide ((rd l0 1) ≥ 128)), .int .i64 (wrap64 (Int.tmod (rd l0 1) 128)), .int .u16 (IntKind.u16.wrap (t365)), .int .u32 t366, .int .u32 t367, u363007] 43 (0, 0))) ∧ Aside0 (Below w.heap.size w w'))
    case atStart => exact ⟨(0), (([] : List Int)), (.slice none 0 0), (by first | rfl | (simp; done) | (simp [*]; done)), H', ⟨Nat.le_refl _⟩, ⟨by first | exact Kd.R_nil _ _ _ _ _ | exact Kd.N_nil _ _ _ _ _ | exact Kd.V_nil _ _ _ _ _ | exact Kd.Q_nil _ _ _ _ _ | exact Kd.S_nil _ _ _ _ _⟩, ⟨by (with_reducible repeat (first | refine blk_drewN ?_ _ | refine blk_drew ?_ | refine blk_alloc ?_ _)); exact BK357.out⟩, ⟨by (with_reducible repeat (first | refine blk_drewN ?_ _ | refine blk_drew ?_ | refine blk_alloc ?_ _)); exact BK362.out⟩, ⟨by repeat (first | (with_reducible first | exact HB.out | apply below_alloc | apply pw_below_drewN | apply below_drew1 | refine below_set ?_ GE357.out | refine below_set ?_ GE362.out) | exact HB.out)⟩⟩
    case round =>
     clear H'
     try clear c1
     try clear c2
     try clear c2b0
     try clear c2b1
     try clear p2
     try clear p3
     try clear q3
     try clear hx3
     try clear qi3
     try clear c4
     try clear c6
     try clear c6b0
     try clear c6b1
     try clear p6
     try clear c7
     try clear c7b0
     try clear c7b1
     try clear c8
     try clear c8b0
     try clear c12
     try clear c12b0
     try clear c12b1
     try clear c27
     try clear p35
     try clear q35
     try clear hx35
     try clear qi35
     try clear p36
     try clear q36
     try clear hx36
     try clear qi36
     try clear Z10_0 Z10_1 Z10_2 Z10_3 Z10_4 Z10_5 Z10_6 Z10_7
     try clear Z28_0 Z28_1 Z28_2 Z28_3 Z28_4 Z28_5 Z28_6 Z28_7
     try clear Z30_0 Z30_1 Z30_2 Z30_3 Z30_4 Z30_5 Z30_6 Z30_7
     try clear Z32_0 Z32_1 Z32_2 Z32_3 Z32_4 Z32_5 Z32_6 Z32_7
     try clear Z34_0 Z34_1 Z34_2 Z34_3 Z34_4 Z34_5 Z34_6 Z34_7
     try clear Z36_0 Z36_1 Z36_2 Z36_3 Z36_4 Z36_5 Z36_6 Z36_7
     try clear Z4_0 Z4_1 Z4_2 Z4_3 Z4_4 Z4_5 Z4_6 Z4_7
     try clear Y10_0 Y10_1 Y10_2 Y10_3 Y10_4 Y10_5 Y10_6 Y10_7
     try clear Y28_0 Y28_1 Y28_2 Y28_3 Y28_4 Y28_5 Y28_6 Y28_7
     try clear Y30_0 Y30_1 Y30_2 Y30_3 Y30_4 Y30_5 Y30_6 Y30_7
     try clear Y32_0 Y32_1 Y32_2 Y32_3 Y32_4 Y32_5 Y32_6 Y32_7
     try clear Y34_0 Y34_1 Y34_2 Y34_3 Y34_4 Y34_5 Y34_6 Y34_7
     try clear Y36_0 Y36_1 Y36_2 Y36_3 Y36_4 Y36_5 Y36_6 Y36_7
     try clear Y4_0 Y4_1 Y4_2 Y4_3 Y4_4 Y4_5 Y4_6 Y4_7
     try clear hx358_0
     try clear hx359_0
     try clear hx360_0
     try clear hx361_0
     try clear hx363_0
     try clear hx364_0
     try clear p358
     try clear p359
     try clear p360
     try clear p361
     try clear p363
     try clear p364
     try clear q358
     try clear q359
     try clear q360
     try clear q361
     try clear q363
     try clear q364
     obtain ⟨x7_1, x363007_1, u363007, rfl, HA, HK1, HO_363007, BK357, BK362, HB⟩ := hrel
     cases gk with
     | zero => exact absurd HA.out (by simp [crossbarref05_Read.l0])
     | succ k1 =>
      have H := HA.out
      clear HA
      simp only [crossbarref05_Read.l0] at H
      by_cases c38 : x7_1 < (wrap64 (Int.tmod (rd l0 0) 16))
      ·rw [if_pos c38] at H
       have c38b0 : decide (x7_1 < (wrap64 (Int.tmod (rd l0 0) 16))) = true := decide_eq_true c38
       clear c38
       replace H := Option.bind_eq_some_iff.mp H
       obtain ⟨t368, A390, H⟩ := H
       replace H : (if x363007_1.length < 35184372088832 then (crossbarref05_Read.l0 k1 l0 (wrap64 (Int.tmod (rd l0 0) 16)) (wrap64 (x7_1 + 1)) ((((Int.tdiv (rd l0 0) 32) % 256) % 2) == 1) ((((Int.tdiv (rd l0 0) 16) % 256) % 2) == 1) (decide ((rd l0 1) ≥ 128)) (wrap64 (Int.tmod (rd l0 1) 128)) (IntKind.u16.wrap (t365)) t366 t367 (x363007_1 ++ [t368])) else (none)) = some (r1, r2, r3, r4, r5, r6, r7, r8, r9, r10) := H
       have A39 := Aside0.mk A390
       clear A390
       by_cases c40 : x363007_1.length < 35184372088832
       ·rw [if_pos c40] at H
        have LMc40 := Aside0.mk c40
        clear c40
        obtain ⟨y369, hy369⟩ : ∃ y_ : List Int, y_ = (x363007_1 ++ [t368]) := ⟨_, rfl⟩
        replace H : (crossbarref05_Read.l0 k1 l0 (wrap64 (Int.tmod (rd l0 0) 16)) (wrap64 (x7_1 + 1)) ((((Int.tdiv (rd l0 0) 32) % 256) % 2) == 1) ((((Int.tdiv (rd l0 0) 16) % 256) % 2) == 1) (decide ((rd l0 1) ≥ 128)) (wrap64 (Int.tmod (rd l0 1) 128)) (IntKind.u16.wrap (t365)) t366 t367 y369) = some (r1, r2, r3, r4, r5, r6, r7, r8, r9, r10) := by first | (rw [hy369]; with_reducible exact H) | (have H2_ := (Option.bind_some _ _).symm.trans H; rw [hy369]; with_reducible exact H2_) | (have H2_ := (Option.bind_some _ _).symm.trans H; with_reducible exact H2_) | with_reducible exact H | (rw [hy369]; exact H) | exact H
        have Ny369 := Aside0.mk hy369
        clear hy369
        have H' := Aside0.mk H
        clear H
        try go_wp2
        replace HO_363007 := Aside0.mk (Kd.R_drew HO_363007.out)
        replace BK357 := Aside0.mk (blk_drew BK357.out)
        replace BK362 := Aside0.mk (blk_drew BK362.out)
        replace HB := Aside0.mk (below_drew1 HB.out)
        refine start_ (n := 11) (S := fun w' => w'.cell? ⟨gb362, 0, none⟩ = some (.bool ((((Int.tdiv (rd l0 0) 32) % 256) % 2) == 1)) ∧ w'.cell? ⟨gb362, 1, none⟩ = some (.bool ((((Int.tdiv (rd l0 0) 16) % 256) % 2) == 1)) ∧ w'.cell? ⟨gb362, 2, none⟩ = some (.bool (decide ((rd l0 1) ≥ 128))) ∧ w'.cell? ⟨gb362, 3, none⟩ = some (.int .i64 (wrap64 (Int.tmod (rd l0 1) 128))) ∧ w'.cell? ⟨gb362, 4, none⟩ = some (.int .u16 (IntKind.u16.wrap (t365))) ∧ w'.cell? ⟨gb362, 5, none⟩ = some (.int .u32 t366) ∧ w'.cell? ⟨gb362, 6, none⟩ = some (.int .u32 t367) ∧ w'.cell? ⟨gb362, 7, none⟩ = some (u363007)) (ds := [10]) #[false, false, false, false, false, false, false, false, false, false, false] (by kernel_rfl) rfl rfl ⟨(blk_cell BK362.out 0).trans rfl, (blk_cell BK362.out 1).trans rfl, (blk_cell BK362.out 2).trans rfl, (blk_cell BK362.out 3).trans rfl, (blk_cell BK362.out 4).trans rfl, (blk_cell BK362.out 5).trans rfl, (blk_cell BK362.out 6).trans rfl, (blk_cell BK362.out 7).trans rfl⟩ (fun hHeld => ?_); refine with_tabW crossbarref05_Read.tab17 crossbarref05_Read.bits17 (fun HT_ HW_ => ?_)
        generalize wr.drew = w41 at HO_363007 BK357 BK362 HB hHeld ⊢
        refine pure_ (i := 0) (N := some 69) (v := ?_) (a' := ?_) #[true, false, false, false, false, false, false, false, false, false, false] rfl rfl (any_of HT_.out (by kernel_rfl)) (fun _ _ _ h => h) (Or.inl ⟨by rfl, ?_⟩) ?_ ?_
        rotate_left
        ·intro w'
         go_simp
         with_reducible rfl
        rotate_left
        ·simp only [Act.put, List.setIfInBounds_toArray, List.set_cons_zero, List.set_cons_succ, i64_w, i32_w]
         rfl
        refine pure_ (i := 2) (N := some 71) (v := ?_) (a' := ?_) #[true, false, true, false, false, false, false, false, false, false, false] rfl rfl (any_of HT_.out (by kernel_rfl)) (fun _ _ _ h => h) (Or.inl ⟨by rfl, ?_⟩) ?_ ?_
        rotate_left
        ·intro w'
         go_simp
         with_reducible rfl
        rotate_left
        ·simp only [Act.put, List.setIfInBounds_toArray, List.set_cons_zero, List.set_cons_succ, i64_w, i32_w]
         rfl
        refine pure_ (i := 3) (N := some 72) (v := ?_) (a' := ?_) #[true, false, true, true, false, false, false, false, false, false, false] rfl rfl (any_of HT_.out (by kernel_rfl)) (fun _ _ _ h => h) (Or.inl ⟨by rfl, ?_⟩) ?_ ?_
        rotate_left
        ·intro w'
         go_simp
         with_reducible rfl
        rotate_left
        ·simp only [Act.put, List.setIfInBounds_toArray, List.set_cons_zero, List.set_cons_succ, i64_w, i32_w]
         rfl
        refine pure_ (i := 4) (N := some 73) (v := ?_) (a' := ?_) #[true, false, true, true, true, false, false, false, false, false, false] rfl rfl (any_of HT_.out (by kernel_rfl)) (fun _ _ _ h => h) (Or.inl ⟨by rfl, ?_⟩) ?_ ?_
        rotate_left
        ·intro w'
         go_simp
         with_reducible rfl
        rotate_left
        ·simp only [Act.put, List.setIfInBounds_toArray, List.set_cons_zero, List.set_cons_succ, i64_w, i32_w]
         rfl
        refine pure_ (i := 5) (N := some 74) (v := ?_) (a' := ?_) #[true, false, true, true, true, true, false, false, false, false, false] rfl rfl (any_of HT_.out (by kernel_rfl)) (fun _ _ _ h => h) (Or.inl ⟨by rfl, ?_⟩) ?_ ?_
        rotate_left
        ·intro w'
         go_simp
         with_reducible rfl
        rotate_left
        ·simp only [Act.put, List.setIfInBounds_toArray, List.set_cons_zero, List.set_cons_succ, i64_w, i32_w]
         rfl
        refine take_ (i := 1) (N := some 70) (v := ?_) (a' := ?_) #[true, true, true, true, true, true, false, false, false, false, false] rfl rfl (take_ofW HT_.out HW_.out (by kernel_rfl)) (fun _ _ _ h => h) (Or.inl ⟨by rfl, ?_⟩) hHeld ?_ ?_
        rotate_left
        ·rintro w' ⟨s0, s1, s2, s3, s4, s5, s6, s7⟩
         go_simp
         with_reducible rfl
        rotate_left
        ·simp only [Act.put, List.setIfInBounds_toArray, List.set_cons_zero, List.set_cons_succ, i64_w, i32_w]
         rfl
        refine one_ (i := 6) (N := some 75) #[true, true, true, true, true, true, true, false, false, false, false] rfl rfl (one_of HT_.out (by kernel_rfl)) (by decide) (fun K hK => ?_)
        refine goes_ Try.func43 (by kernel_rfl) rfl #[.slice (some ad358) l0.length c0, .int .i64 (wrap64 (12 + (wrap64 (4 * x7_1)))), .int .i64 4] (by rfl) rfl rfl (by (try simp only [List.map_toArray, List.map_cons, List.map_nil]); first | done | rfl | (simp only [List.length_drop, List.length_take]; rfl)) ?_
        with_reducible refine (crossbarref05_Num.calls k1 _ _ l0 (wrap64 (12 + (wrap64 (4 * x7_1)))) 4 t368 _ ?side1 ?side2 A39.out).mono ?_
        (case side1 => exact cbE HR0 HB)
        (case side2 => exact HC0.out)
        rintro e w' ⟨rfl, ⟨nd, rfl⟩⟩
        refine ⟨_, rfl, ?_⟩
        refine hK.out _ _ ⟨(blk_cell BK362.out 0).trans rfl, (blk_cell BK362.out 1).trans rfl, (blk_cell BK362.out 2).trans rfl, (blk_cell BK362.out 3).trans rfl, (blk_cell BK362.out 4).trans rfl, (blk_cell BK362.out 5).trans rfl, (blk_cell BK362.out 6).trans rfl, (blk_cell BK362.out 7).trans rfl⟩ (fun hHeld => ?_)
        clear hK K
        refine norm_ (a' := ?_) ?_ ?_
        rotate_left
        ·show Act.put _ (some 75) _ = _
         simp only [Act.put, List.setIfInBounds_toArray, List.set_cons_zero, List.set_cons_succ, i64_w, i32_w]
         rfl
        refine one_ (i := 7) (N := some 76) #[true, true, true, true, true, true, true, true, false, false, false] rfl rfl (one_of HT_.out (by kernel_rfl)) (by decide) (fun K hK => ?_)
        refine value_ (w1 := ?_) (v := ?_) (by rfl) rfl ?_ ?_
        rotate_left 2
        ·go_simp
         constructor
         ·rfl
         rfl
        refine hK.out _ _ ⟨(blk_cell (blk_alloc BK362.out _) 0).trans rfl, (blk_cell (blk_alloc BK362.out _) 1).trans rfl, (blk_cell (blk_alloc BK362.out _) 2).trans rfl, (blk_cell (blk_alloc BK362.out _) 3).trans rfl, (blk_cell (blk_alloc BK362.out _) 4).trans rfl, (blk_cell (blk_alloc BK362.out _) 5).trans rfl, (blk_cell (blk_alloc BK362.out _) 6).trans rfl, (blk_cell (blk_alloc BK362.out _) 7).trans rfl⟩ (fun hHeld => ?_)
        clear hK K
        refine norm_ (a' := ?_) ?_ ?_
        rotate_left
        ·show Act.put _ (some 76) _ = _
         simp only [Act.put, List.setIfInBounds_toArray, List.set_cons_zero, List.set_cons_succ, i64_w, i32_w]
         rfl
        refine one_ (i := 8) (N := some 77) #[true, true, true, true, true, true, true, true, true, false, false] rfl rfl (one_of HT_.out (by kernel_rfl)) (by decide) (fun K hK => ?_)
        refine Kd.R_append_step (Kd.int .u32) (w0 := w) w.heap.size (by rfl) (.tmp 70) (.tmp 76) 41 40 (.int .u32 0) 4 rfl Try.underlying41 info40 rfl (by decide) (by omega) u363007 x363007_1 t368 [.int .u32 t368] (fun _ => True) (fun _ => False) rfl rfl ?aP (fun _ hk => hk.elim) ?aF ?aO ?aB ?aS ?aL ?_
        (case aP => exact rfl)
        (case aB => exact (pB HB))
        (case aF => exact (fun _ _ => trivial))
        (case aO => exact (pR HO_363007))
        (case aS => exact (below_size (pB HB)))
        (case aL => have := LMc40.out; omega)
        intro v370 w42 ho hb hg hat
        rw [← Ny369.out] at ho
        replace BK357 := Aside0.mk (blk_grown (g := gb357) (o := .cells #[.bool false, .bool false, .bool false, .int .i64 0, .int .u16 0, .int .u32 0, .int .u32 0, .slice none 0 0] 43 (0, 0)) (pk BK357) hg (Kd.R_ne HO_363007.out BK357.out (by decide)))
        replace BK362 := Aside0.mk (blk_grown (g := gb362) (o := .cells #[.bool ((((Int.tdiv (rd l0 0) 32) % 256) % 2) == 1), .bool ((((Int.tdiv (rd l0 0) 16) % 256) % 2) == 1), .bool (decide ((rd l0 1) ≥ 128)), .int .i64 (wrap64 (Int.tmod (rd l0 1) 128)), .int .u16 (IntKind.u16.wrap (t365)), .int .u32 t366, .int .u32 t367, u363007] 43 (0, 0)) (pk BK362) hg (Kd.R_ne HO_363007.out BK362.out (by decide)))
        replace HB := Aside0.mk (hb)
        have HO371 := Aside0.mk (ho)
        clear HO_363007
        clear ho hb hg hat
        obtain ⟨Ao43, co43, eo43⟩ := Kd.R_slice HO371.out
        (first | subst eo43 | (injection eo43 with f1_ f2_ f3_; have f4_ := f1_.symm; have f5_ := f3_.symm; clear f1_ f2_ f3_; subst f4_; subst f5_))
        refine hK.out _ _ ⟨(blk_cell BK362.out 0).trans rfl, (blk_cell BK362.out 1).trans rfl, (blk_cell BK362.out 2).trans rfl, (blk_cell BK362.out 3).trans rfl, (blk_cell BK362.out 4).trans rfl, (blk_cell BK362.out 5).trans rfl, (blk_cell BK362.out 6).trans rfl, (blk_cell BK362.out 7).trans rfl⟩ (fun hHeld => ?_)
        clear hK K
        refine norm_ (a' := ?_) ?_ ?_
        rotate_left
        ·show Act.put _ (some 77) _ = _
         simp only [Act.put, List.setIfInBounds_toArray, List.set_cons_zero, List.set_cons_succ, i64_w, i32_w]
         rfl
        refine pure_ (i := 9) (N := some 78) (v := ?_) (a' := ?_) #[true, true, true, true, true, true, true, true, true, true, false] rfl rfl (any_of HT_.out (by kernel_rfl)) (fun _ _ _ h => h) (Or.inl ⟨by rfl, ?_⟩) ?_ ?_
        rotate_left
        ·intro w'
         go_simp
         with_reducible rfl
        rotate_left
        ·simp only [Act.put, List.setIfInBounds_toArray, List.set_cons_zero, List.set_cons_succ, i64_w, i32_w]
         rfl
        refine last_ (i := 10) (N := none) #[true, true, true, true, true, true, true, true, true, true, true] rfl rfl (one_of HT_.out (by kernel_rfl)) (by decide) (fun K hK => ?_)
        have hs44 : w42.cell? ⟨gb362, 7, none⟩ = some (u363007) := (blk_cell BK362.out 7).trans rfl
        have hfs44 := blk_frozen BK362.out 7
        have hns44_0 := NB357_362.out
        have hms44_0 := NB362_357.out
        refine skip_ (w1 := ?_) (by rfl) rfl ?_ ?_
        rotate_left
        ·go_simp
         rfl
        refine hK.out _ _ ?_
        clear hK K
        refine done_ (done_of HT_.out (by kernel_rfl)) ?_
        try go_wp2
        go_roundg k1
        case measure => have := HK1.out; omega
        case rel => exact ⟨(wrap64 (x7_1 + 1)), (y369), (.slice Ao43 y369.length co43), (by first | rfl | (simp; done) | (simp [*]; done)), H', ⟨by have := HK1.out; omega⟩, ⟨by (with_reducible repeat (first | apply Kd.R_alloc | apply Kd.R_drewN | apply Kd.R_drew)); exact Kd.R_mono (Kd.R_far (p := ⟨gb362, 7, none⟩) (Kd.R_types HO371.out BK362.out (by decide)) (fun _ hk => hk.2) (.slice Ao43 y369.length co43)) (fun _ hk => trivial)⟩, ⟨by (with_reducible repeat (first | refine blk_drewN ?_ _ | refine blk_drew ?_ | refine blk_alloc ?_ _)); refine blk_far ?_ NB357_362.out _; (with_reducible repeat (first | refine blk_drewN ?_ _ | refine blk_drew ?_ | refine blk_alloc ?_ _)); exact BK357.out⟩, ⟨by (with_reducible repeat (first | refine blk_drewN ?_ _ | refine blk_drew ?_ | refine blk_alloc ?_ _)); refine blk_put (cs := #[.bool ((((Int.tdiv (rd l0 0) 32) % 256) % 2) == 1), .bool ((((Int.tdiv (rd l0 0) 16) % 256) % 2) == 1), .bool (decide ((rd l0 1) ≥ 128)), .int .i64 (wrap64 (Int.tmod (rd l0 1) 128)), .int .u16 (IntKind.u16.wrap (t365)), .int .u32 t366, .int .u32 t367, u363007]) ?_ 7 _ rfl; (with_reducible repeat (first | refine blk_drewN ?_ _ | refine blk_drew ?_ | refine blk_alloc ?_ _)); exact BK362.out⟩, ⟨by repeat (first | (with_reducible first | exact HB.out | apply below_alloc | apply pw_below_drewN | apply below_drew1 | refine below_set ?_ GE357.out | refine below_set ?_ GE362.out) | exact HB.out)⟩⟩
       rw [if_neg c40] at H
       exact absurd H (by simp)
      rw [if_neg c38] at H
      have c38b0 : decide (x7_1 < (wrap64 (Int.tmod (rd l0 0) 16))) = false := decide_eq_false c38
      clear c38
      simp only [Option.some.injEq, Prod.mk.injEq] at H
      obtain ⟨rfl, rfl, rfl, rfl, rfl, rfl, rfl, rfl, rfl, rfl⟩ := H
      have hnb45 := NB362_357.out
      have hnc45 := NB357_362.out
      obtain ⟨Z46_0, Z46_1, Z46_2, Z46_3, Z46_4, Z46_5, Z46_6, Z46_7, Y46_0, Y46_1, Y46_2, Y46_3, Y46_4, Y46_5, Y46_6, Y46_7⟩ := bc8 BK362.out
      obtain ⟨Z47_0, Z47_1, Z47_2, Z47_3, Z47_4, Z47_5, Z47_6, Z47_7, Y47_0, Y47_1, Y47_2, Y47_3, Y47_4, Y47_5, Y47_6, Y47_7⟩ := bc8 BK357.out
      obtain ⟨Ao48, co48, eo48⟩ := Kd.R_slice HO_363007.out
      subst eo48
      go_wp2_with (first | ((with_reducible refine gate_store (t := 43) (p := 2) rfl ?_); refine store_event (t := 43) (p := 2) (v := ?vo_w49) (w1 := ((((((((wr.setCell ⟨gb357, 0, none⟩ (.bool ((((Int.tdiv (rd l0 0) 32) % 256) % 2) == 1))).setCell ⟨gb357, 1, none⟩ (.bool ((((Int.tdiv (rd l0 0) 16) % 256) % 2) == 1))).setCell ⟨gb357, 2, none⟩ (.bool (decide ((rd l0 1) ≥ 128)))).setCell ⟨gb357, 3, none⟩ (.int .i64 (wrap64 (Int.tmod (rd l0 1) 128)))).setCell ⟨gb357, 4, none⟩ (.int .u16 (IntKind.u16.wrap (t365)))).setCell ⟨gb357, 5, none⟩ (.int .u32 t366)).setCell ⟨gb357, 6, none⟩ (.int .u32 t367)).setCell ⟨gb357, 7, none⟩ (.slice Ao48 x363007_1.length co48))) ?hg ?ho ?hn ?hr ?_; (case ho => rfl); (case hg => rfl); (case hn => rfl); (case hr => first | (go_simp; done) | (go_simp; rfl)); intro w49 hw; replace HO_363007 := rfE hw HO_363007 BK357; replace BK357 : Aside0 (w49.heap[gb357]? = some (.cells #[.bool ((((Int.tdiv (rd l0 0) 32) % 256) % 2) == 1), .bool ((((Int.tdiv (rd l0 0) 16) % 256) % 2) == 1), .bool (decide ((rd l0 1) ≥ 128)), .int .i64 (wrap64 (Int.tmod (rd l0 1) 128)), .int .u16 (IntKind.u16.wrap (t365)), .int .u32 t366, .int .u32 t367, .slice Ao48 x363007_1.length co48] 43 (0, 0))) := ⟨by rw [hw]; apply puts8; exact BK357.out⟩; replace BK362 := bfE hw BK362 NB362_357; replace HB := bsE hw HB GE357; clear hw))
      refine bodyPost_ret (results_ctt rfl _ _ gb357 43 #[.bool ((((Int.tdiv (rd l0 0) 32) % 256) % 2) == 1), .bool ((((Int.tdiv (rd l0 0) 16) % 256) % 2) == 1), .bool (decide ((rd l0 1) ≥ 128)), .int .i64 (wrap64 (Int.tmod (rd l0 1) 128)), .int .u16 (IntKind.u16.wrap (t365)), .int .u32 t366, .int .u32 t367, .slice Ao48 x363007_1.length co48] (0, 0) _ rfl (pk BK357) Try.underlying43 rfl (by kernel_rfl)) rfl ?_
      exact ⟨_, by first | rfl | (simp [errW_none, errW_some] <;> rfl) | (simp [*, errW_none, errW_some] <;> rfl), by (with_reducible repeat (first | apply Kd.R_alloc | apply Kd.R_drewN | apply Kd.R_drew)); exact HO_363007.out, by repeat (first | (with_reducible first | exact HB.out | apply below_alloc | apply pw_below_drewN | apply below_drew1 | refine below_set ?_ GE357.out | refine below_set ?_ GE362.out) | exact HB.out)⟩
   rw [if_neg c12] at H
   exact absurd H (by simp)
  rw [if_neg c7] at H
  have c7b0 : (((Int.tdiv (rd l0 0) 64) % 256) == 2) = false := beq_eq_false_iff_ne.mpr c7
  have c7b1 : (((Int.tdiv (rd l0 0) 64) % 256) != 2) = true := bne_iff_ne.mpr c7
  simp only [Option.some.injEq, Prod.mk.injEq] at H
  obtain ⟨rfl, rfl, rfl, rfl, rfl, rfl, rfl, rfl, rfl, rfl⟩ := H
  go_enter Try.func42, Try.ntmps42
  go_wp2_with (first | ((with_reducible refine gate_dst (N := 2) rfl ?_); refine box_event ?hg (N := 2) ?hd (cs := #[.bool false, .bool false, .bool false, .int .i64 0, .int .u16 0, .int .u32 0, .int .u32 0, .slice none 0 0]) (t := 43) ?hr ?_; (case hd => rfl); (case hg => rfl); (case hr => first | (go_simp; done) | (go_simp; rfl)); intro gb357 hg w50 hbox hb; have n0_ := bstE HB hb; have BK357 := Aside0.mk (hbox); have GW357 := geE hg HB; have GE357 := geE hg HB; clear HB; have HB := n0_; clear n0_; clear hb hbox hg; have p358 : 0 ≤ (0 : Int) := (by omega); have q358 : 0 < (l0.length : Int) := of_decide_eq_true (by first | (with_reducible assumption) | assumption); obtain ⟨ad358, e358, hx358_0⟩ := Kd.at_int HR0.out 0 p358 q358; cases e358; have qi358 : (0 < l0.length) = True := eq_true (by omega); (try rw [show ((0 : Int)).toNat = 0 from rfl] at hx358_0); (try rw [Addr.add_zero'] at hx358_0); replace hx358_0 := (HB.out.cell (World.block_lt_of_cell? w _ hx358_0)).trans hx358_0; replace p358 := eq_true p358; replace q358 := eq_true q358; obtain ⟨Z51_0, Z51_1, Z51_2, Z51_3, Z51_4, Z51_5, Z51_6, Z51_7, Y51_0, Y51_1, Y51_2, Y51_3, Y51_4, Y51_5, Y51_6, Y51_7⟩ := bc8 BK357.out) | ((with_reducible refine gate_store (t := 43) (p := 2) rfl ?_); refine store_event (t := 43) (p := 2) (v := ?vo_w52) (w1 := ((((((((w50.setCell ⟨gb357, 0, none⟩ (.bool false)).setCell ⟨gb357, 1, none⟩ (.bool false)).setCell ⟨gb357, 2, none⟩ (.bool false)).setCell ⟨gb357, 3, none⟩ (.int .i64 0)).setCell ⟨gb357, 4, none⟩ (.int .u16 0)).setCell ⟨gb357, 5, none⟩ (.int .u32 0)).setCell ⟨gb357, 6, none⟩ (.int .u32 0)).setCell ⟨gb357, 7, none⟩ (.slice none 0 0))) ?hg ?ho ?hn ?hr ?_; (case ho => rfl); (case hg => rfl); (case hn => rfl); (case hr => first | (go_simp; done) | (go_simp; rfl)); intro w52 hw; replace BK357 : Aside0 (w52.heap[gb357]? = some (.cells #[.bool false, .bool false, .bool false, .int .i64 0, .int .u16 0, .int .u32 0, .int .u32 0, .slice none 0 0] 43 (0, 0))) := ⟨by rw [hw]; apply puts8; exact BK357.out⟩; replace HB := bsE hw HB GE357; clear hw))
  refine bodyPost_ret (results_ctt rfl _ _ gb357 43 #[.bool false, .bool false, .bool false, .int .i64 0, .int .u16 0, .int .u32 0, .int .u32 0, .slice none 0 0] (0, 0) _ rfl (pk BK357) Try.underlying43 rfl (by kernel_rfl)) rfl ?_
  exact ⟨_, by first | rfl | (simp [errW_none, errW_some] <;> rfl) | (simp [*, errW_none, errW_some] <;> rfl), by first | exact Kd.R_nil _ _ _ _ _ | exact Kd.N_nil _ _ _ _ _ | exact Kd.V_nil _ _ _ _ _ | exact Kd.Q_nil _ _ _ _ _ | exact Kd.S_nil _ _ _ _ _, by repeat (first | (with_reducible first | exact HB.out | apply below_alloc | apply pw_below_drewN | apply below_drew1 | refine below_set ?_ GE357.out) | exact HB.out)⟩
 rw [if_neg c6] at H
 exact absurd H (by simp)
def crossbarref03_Trail.f (l0 : List Int) : Option (Int) := if (l0.length : Int) = 0 then (some 0) else (if 0 ≤ (wrap64 ((l0.length : Int) - 1)) then (if (wrap64 ((l0.length : Int) - 1)) < (l0.length : Int) then (if (wrap64 (rd l0 (wrap64 ((l0.length : Int) - 1)))) > (l0.length : Int) then (some 0) else (some (wrap64 (rd l0 (wrap64 ((l0.length : Int) - 1)))))) else (none)) else (none))
set_option maxHeartbeats 8000000 in
set_option maxRecDepth 100000 in
theorem crossbarref03_Trail.calls (A0 : Option Addr) (c0 : Nat) (l0 : List Int) (r : Int) (w : World) (hr0 : Kd.C (Kd.int .u8) w A0 l0.length l0) (hc0 : l0.length ≤ c0) (h : crossbarref03_Trail.f l0 = some r) :
  Calls Try.prog 44 #[.slice A0 l0.length c0] w fun e w' => e = .returned (.int .i64 r) ∧ Drawn0 w w' := by
 have HR0 := Aside0.mk hr0
 have HC0 := Aside0.mk hc0
 clear hr0 hc0
 have H : (if (l0.length : Int) = 0 then (some 0) else (if 0 ≤ (wrap64 ((l0.length : Int) - 1)) then (if (wrap64 ((l0.length : Int) - 1)) < (l0.length : Int) then (if (wrap64 (rd l0 (wrap64 ((l0.length : Int) - 1)))) > (l0.length : Int) then (some 0) else (some (wrap64 (rd l0 (wrap64 ((l0.length : Int) - 1)))))) else (none)) else (none))) = some r := h
 clear h
 by_cases c2 : (l0.length : Int) = 0
 ·rw [if_pos c2] at H
  have c2b0 : ((l0.length : Int) == 0) = true := beq_iff_eq.mpr c2
  have c2b1 : ((l0.length : Int) != 0) = false := bne_eq_false_iff_eq.mpr c2
  clear c2
  obtain rfl := Option.some.inj H
  go_enter Try.func44, Try.ntmps44
  go_wp2
  go_ret
  exact ⟨by first | rfl | (simp; done) | (simp [*]; done), by repeat (first | exact Drawn0.refl _ | apply Drawn0.step)⟩
 rw [if_neg c2] at H
 have c2b0 : ((l0.length : Int) == 0) = false := beq_eq_false_iff_ne.mpr c2
 have c2b1 : ((l0.length : Int) != 0) = true := bne_iff_ne.mpr c2
 have c2b2 : ¬ (l0 = []) := fun h_ => c2 (by rw [h_]; rfl)
 obtain ⟨ji3, hji3⟩ : ∃ j_ : Int, (wrap64 ((l0.length : Int) - 1)) = j_ := ⟨_, rfl⟩
 replace H : (if 0 ≤ (ji3) then (if (ji3) < (l0.length : Int) then (if (wrap64 (rd l0 (ji3))) > (l0.length : Int) then (some 0) else (some (wrap64 (rd l0 (ji3))))) else (none)) else (none)) = some r := by first | (rw [hji3] at H; exact H) | (simp only [hji3] at H ⊢; exact H)
 have hji3w : (IntKind.i64.wrap ((l0.length : Int) - 1)) = ji3 := (i64_w _).trans hji3
 by_cases c4 : 0 ≤ (ji3)
 ·rw [if_pos c4] at H
  have c4b0 : decide (0 ≤ (ji3)) = true := decide_eq_true c4
  clear c4
  by_cases c5 : (ji3) < (l0.length : Int)
  ·rw [if_pos c5] at H
   have c5b0 : decide ((ji3) < (l0.length : Int)) = true := decide_eq_true c5
   clear c5
   by_cases c6 : (wrap64 (rd l0 (ji3))) > (l0.length : Int)
   ·rw [if_pos c6] at H
    have c6b0 : decide ((l0.length : Int) < (wrap64 (rd l0 (ji3)))) = true := decide_eq_true c6
    clear c6
    obtain rfl := Option.some.inj H
    have p372 : 0 ≤ ((ji3) : Int) := of_decide_eq_true (by first | (with_reducible assumption) | assumption)
    have q372 : (ji3) < (l0.length : Int) := of_decide_eq_true (by first | (with_reducible assumption) | assumption)
    obtain ⟨ad372, e372, hx372_0⟩ := Kd.at_int HR0.out (ji3) p372 q372
    cases e372
    replace p372 := eq_true p372
    replace q372 := eq_true q372
    go_enter Try.func44, Try.ntmps44
    go_wp2
    go_ret
    exact ⟨by first | rfl | (simp; done) | (simp only [← hji3] <;> (first | rfl | simp)) | (simp [*]; done), by repeat (first | exact Drawn0.refl _ | apply Drawn0.step)⟩
   rw [if_neg c6] at H
   have c6b0 : decide ((l0.length : Int) < (wrap64 (rd l0 (ji3)))) = false := decide_eq_false c6
   clear c6
   obtain rfl := Option.some.inj H
   have p372 : 0 ≤ ((ji3) : Int) := of_decide_eq_true (by first | (with_reducible assumption) | assumption)
   have q372 : (ji3) < (l0.length : Int) := of_decide_eq_true (by first | (with_reducible assumption) | assumption)
   obtain ⟨ad372, e372, hx372_0⟩ := Kd.at_int HR0.out (ji3) p372 q372
   cases e372
   replace p372 := eq_true p372
   replace q372 := eq_true q372
   go_enter Try.func44, Try.ntmps44
   go_wp2
   go_ret
   exact ⟨by first | rfl | (simp; done) | (simp only [← hji3] <;> (first | rfl | simp)) | (simp [*]; done), by repeat (first | exact Drawn0.refl _ | apply Drawn0.step)⟩
  rw [if_neg c5] at H
  exact absurd H (by simp)
 rw [if_neg c4] at H
 exact absurd H (by simp)
def crossbarref06_Read.j0 : Nat → List Int → Int → Bool → Bool → Bool → Int → Int → Int → Int → List Int → Bool → Bool → Bool → Int → Int → Int → Int → List Int → Int → List Int → Int → Option (Bool × Bool × Bool × Int × Int × Int × Int × List Int × Int × List Int × List Int × Int × Int)
 | 0, _, _, _, _, _, _, _, _, _, _, _, _, _, _, _, _, _, _, _, _, _ => none
 | k + 1, x0, x5, x387000, x387001, x387002, x387003, x387004, x387005, x387006, x387007, x388000, x388001, x388002, x388003, x388004, x388005, x388006, x388007, x388008, x388009, x388011 => if x387000 = true then (if 0 ≤ x5 then (if x5 ≤ (x0.length : Int) then ((crossbarref03_Trail.f (x0.drop (x5 : Int).toNat)).bind fun t398 => (if t398 = 0 then (some (false, false, false, 0, 0, 0, 0, ([] : List Int), 0, ([] : List Int), ([] : List Int), 0, 5)) else ((some (([] : List Int) : List Int)).bind fun y399 => (if x5 ≤ (wrap64 ((x0.length : Int) - t398)) then (if (wrap64 ((x0.length : Int) - t398)) ≤ (x0.length : Int) then (if y399.length + ((x0.take ((wrap64 ((x0.length : Int) - t398)) : Int).toNat).drop (x5 : Int).toNat).length < 140737488355328 then (some (x388000, x388001, x388002, x388003, x388004, x388005, x388006, x388007, x388008, x388009, (y399 ++ ((x0.take ((wrap64 ((x0.length : Int) - t398)) : Int).toNat).drop (x5 : Int).toNat)), t398, 0)) else (none)) else (none)) else (none))))) else (none)) else (none)) else ((some (([] : List Int) : List Int)).bind fun y406 => (if 0 ≤ x5 then (if x5 ≤ (wrap64 ((x0.length : Int) - x388011)) then (if (wrap64 ((x0.length : Int) - x388011)) ≤ (x0.length : Int) then (if y406.length + ((x0.take ((wrap64 ((x0.length : Int) - x388011)) : Int).toNat).drop (x5 : Int).toNat).length < 140737488355328 then (some (x388000, x388001, x388002, x388003, x388004, x388005, x388006, x388007, x388008, x388009, (y406 ++ ((x0.take ((wrap64 ((x0.length : Int) - x388011)) : Int).toNat).drop (x5 : Int).toNat)), x388011, 0)) else (none)) else (none)) else (none)) else (none)))
def crossbarref06_Read.f (k : Nat) (l0 : List Int) : Option (Bool × Bool × Bool × Int × Int × Int × Int × List Int × Int × List Int × List Int × Int × Int) := if (l0.length : Int) > 65535 then (some (false, false, false, 0, 0, 0, 0, ([] : List Int), 0, ([] : List Int), ([] : List Int), 0, 4)) else ((crossbarref05_Read.f k l0).bind fun bt374 => (if bt374.2.2.2.2.2.2.2.2.2 = 0 then (if bt374.2.1 = true then (if (wrap64 ((l0.length : Int) - bt374.2.2.2.2.2.2.2.2.1)) < 4 then (some (false, false, false, 0, 0, 0, 0, ([] : List Int), 0, ([] : List Int), ([] : List Int), 0, 2)) else ((crossbarref05_Num.f k l0 (wrap64 (bt374.2.2.2.2.2.2.2.2.1 + 2)) 2).bind fun t388 => (if (wrap64 ((wrap64 ((l0.length : Int) - bt374.2.2.2.2.2.2.2.2.1)) - 4)) < (wrap64 (4 * (wrap64 (t388)))) then (some (false, false, false, 0, 0, 0, 0, ([] : List Int), 0, ([] : List Int), ([] : List Int), 0, 2)) else ((crossbarref05_Num.f k l0 bt374.2.2.2.2.2.2.2.2.1 2).bind fun t389 => ((some (([] : List Int) : List Int)).bind fun y390 => (if 0 ≤ (wrap64 (bt374.2.2.2.2.2.2.2.2.1 + 4)) then (if (wrap64 (bt374.2.2.2.2.2.2.2.2.1 + 4)) ≤ (wrap64 ((wrap64 (bt374.2.2.2.2.2.2.2.2.1 + 4)) + (wrap64 (4 * (wrap64 (t388)))))) then (if (wrap64 ((wrap64 (bt374.2.2.2.2.2.2.2.2.1 + 4)) + (wrap64 (4 * (wrap64 (t388)))))) ≤ (l0.length : Int) then (if y390.length + ((l0.take ((wrap64 ((wrap64 (bt374.2.2.2.2.2.2.2.2.1 + 4)) + (wrap64 (4 * (wrap64 (t388)))))) : Int).toNat).drop ((wrap64 (bt374.2.2.2.2.2.2.2.2.1 + 4)) : Int).toNat).length < 140737488355328 then (crossbarref06_Read.j0 k l0 (wrap64 ((wrap64 (bt374.2.2.2.2.2.2.2.2.1 + 4)) + (wrap64 (4 * (wrap64 (t388)))))) bt374.1 bt374.2.1 bt374.2.2.1 bt374.2.2.2.1 bt374.2.2.2.2.1 bt374.2.2.2.2.2.1 bt374.2.2.2.2.2.2.1 bt374.2.2.2.2.2.2.2.1 bt374.1 bt374.2.1 bt374.2.2.1 bt374.2.2.2.1 bt374.2.2.2.2.1 bt374.2.2.2.2.2.1 bt374.2.2.2.2.2.2.1 bt374.2.2.2.2.2.2.2.1 (IntKind.u16.wrap (t389)) (y390 ++ ((l0.take ((wrap64 ((wrap64 (bt374.2.2.2.2.2.2.2.2.1 + 4)) + (wrap64 (4 * (wrap64 (t388)))))) : Int).toNat).drop ((wrap64 (bt374.2.2.2.2.2.2.2.2.1 + 4)) : Int).toNat)) 0) else (none)) else (none)) else (none)) else (none))))))) else (crossbarref06_Read.j0 k l0 bt374.2.2.2.2.2.2.2.2.1 bt374.1 bt374.2.1 bt374.2.2.1 bt374.2.2.2.1 bt374.2.2.2.2.1 bt374.2.2.2.2.2.1 bt374.2.2.2.2.2.2.1 bt374.2.2.2.2.2.2.2.1 bt374.1 bt374.2.1 bt374.2.2.1 bt374.2.2.2.1 bt374.2.2.2.2.1 bt374.2.2.2.2.2.1 bt374.2.2.2.2.2.2.1 bt374.2.2.2.2.2.2.2.1 0 ([] : List Int) 0)) else (some (false, false, false, 0, 0, 0, 0, ([] : List Int), 0, ([] : List Int), ([] : List Int), 0, bt374.2.2.2.2.2.2.2.2.2))))
set_option maxHeartbeats 8000000 in
set_option maxRecDepth 100000 in
theorem crossbarref06_Read.calls (k : Nat) (A0 : Option Addr) (c0 : Nat) (l0 : List Int) (r1 : Bool) (r2 : Bool) (r3 : Bool) (r4 : Int) (r5 : Int) (r6 : Int) (r7 : Int) (r8 : List Int) (r9 : Int) (r10 : List Int) (r11 : List Int) (r12 : Int) (r13 : Int) (w : World) (hr0 : Kd.C (Kd.int .u8) w A0 l0.length l0) (hc0 : l0.length ≤ c0) (h : crossbarref06_Read.f k l0 = some (r1, r2, r3, r4, r5, r6, r7, r8, r9, r10, r11, r12, r13)) :
  Calls Try.prog 26 #[.slice A0 l0.length c0] w fun e w' => ∃ v7_ v9_ v10_ : Value, e = .returned (.tuple #[.agg #[.bool r1, .bool r2, .bool r3, .int .i64 r4, .int .u16 r5, .int .u32 r6, .int .u32 r7, v7_, .int .u16 r9, v9_, v10_, .int .i64 r12], .int .i64 r13]) ∧ Kd.R (Kd.int .u32) 40 w' w.heap.size (fun _ => True) v7_ r8 ∧ Kd.R (Kd.int .u8) 5 w' w.heap.size (fun k_ => some k_ ≠ (v10_ : Value).ownBlock) v9_ r10 ∧ Kd.R (Kd.int .u8) 5 w' w.heap.size (fun k_ => some k_ ≠ (v9_ : Value).ownBlock) v10_ r11 ∧ Below w.heap.size w w' := by
 have hu45 := Try.underlying45
 have hu43 := Try.underlying43
 have HR0 := Aside0.mk hr0
 have HC0 := Aside0.mk hc0
 clear hr0 hc0
 have HB := Aside0.mk (Below.refl w.heap.size w)
 have H : (if (l0.length : Int) > 65535 then (some (false, false, false, 0, 0, 0, 0, ([] : List Int), 0, ([] : List Int), ([] : List Int), 0, 4)) else ((crossbarref05_Read.f k l0).bind fun bt374 => (if bt374.2.2.2.2.2.2.2.2.2 = 0 then (if bt374.2.1 = true then (if (wrap64 ((l0.length : Int) - bt374.2.2.2.2.2.2.2.2.1)) < 4 then (some (false, false, false, 0, 0, 0, 0, ([] : List Int), 0, ([] : List Int), ([] : List Int), 0, 2)) else ((crossbarref05_Num.f k l0 (wrap64 (bt374.2.2.2.2.2.2.2.2.1 + 2)) 2).bind fun t388 => (if (wrap64 ((wrap64 ((l0.length : Int) - bt374.2.2.2.2.2.2.2.2.1)) - 4)) < (wrap64 (4 * (wrap64 (t388)))) then (some (false, false, false, 0, 0, 0, 0, ([] : List Int), 0, ([] : List Int), ([] : List Int), 0, 2)) else ((crossbarref05_Num.f k l0 bt374.2.2.2.2.2.2.2.2.1 2).bind fun t389 => ((some (([] : List Int) : List Int)).bind fun y390 => (if 0 ≤ (wrap64 (bt374.2.2.2.2.2.2.2.2.1 + 4)) then (if (wrap64 (bt374.2.2.2.2.2.2.2.2.1 + 4)) ≤ (wrap64 ((wrap64 (bt374.2.2.2.2.2.2.2.2.1 + 4)) + (wrap64 (4 * (wrap64 (t388)))))) then (if (wrap64 ((wrap64 (bt374.2.2.2.2.2.2.2.2.1 + 4)) + (wrap64 (4 * (wrap64 (t388)))))) ≤ (l0.length : Int) then (if y390.length + ((l0.take ((wrap64 ((wrap64 (bt374.2.2.2.2.2.2.2.2.1 + 4)) + (wrap64 (4 * (wrap64 (t388)))))) : Int).toNat).drop ((wrap64 (bt374.2.2.2.2.2.2.2.2.1 + 4)) : Int).toNat).length < 140737488355328 then (crossbarref06_Read.j0 k l0 (wrap64 ((wrap64 (bt374.2.2.2.2.2.2.2.2.1 + 4)) + (wrap64 (4 * (wrap64 (t388)))))) bt374.1 bt374.2.1 bt374.2.2.1 bt374.2.2.2.1 bt374.2.2.2.2.1 bt374.2.2.2.2.2.1 bt374.2.2.2.2.2.2.1 bt374.2.2.2.2.2.2.2.1 bt374.1 bt374.2.1 bt374.2.2.1 bt374.2.2.2.1 bt374.2.2.2.2.1 bt374.2.2.2.2.2.1 bt374.2.2.2.2.2.2.1 bt374.2.2.2.2.2.2.2.1 (IntKind.u16.wrap (t389)) (y390 ++ ((l0.take ((wrap64 ((wrap64 (bt374.2.2.2.2.2.2.2.2.1 + 4)) + (wrap64 (4 * (wrap64 (t388)))))) : Int).toNat).drop ((wrap64 (bt374.2.2.2.2.2.2.2.2.1 + 4)) : Int).toNat)) 0) else (none)) else (none)) else (none)) else (none))))))) else (crossbarref06_Read.j0 k l0 bt374.2.2.2.2.2.2.2.2.1 bt374.1 bt374.2.1 bt374.2.2.1 bt374.2.2.2.1 bt374.2.2.2.2.1 bt374.2.2.2.2.2.1 bt374.2.2.2.2.2.2.1 bt374.2.2.2.2.2.2.2.1 bt374.1 bt374.2.1 bt374.2.2.1 bt374.2.2.2.1 bt374.2.2.2.2.1 bt374.2.2.2.2.2.1 bt374.2.2.2.2.2.2.1 bt374.2.2.2.2.2.2.2.1 0 ([] : List Int) 0)) else (some (false, false, false, 0, 0, 0, 0, ([] : List Int), 0, ([] : List Int), ([] : List Int), 0, bt374.2.2.2.2.2.2.2.2.2))))) = some (r1, r2, r3, r4, r5, r6, r7, r8, r9, r10, r11, r12, r13) := h
 clear h
 by_cases c2 : (l0.length : Int) > 65535
 ·rw [if_pos c2] at H
  have c2b0 : decide (65535 < (l0.length : Int)) = true := decide_eq_true c2
  have c2b1 : decide (65535 < l0.length) = true := decide_eq_true (by omega)
  clear c2
  simp only [Option.some.injEq, Prod.mk.injEq] at H
  obtain ⟨rfl, rfl, rfl, rfl, rfl, rfl, rfl, rfl, rfl, rfl, rfl, rfl, rfl⟩ := H
  go_enter Try.func26, Try.ntmps26
  go_wp2_with (first | ((with_reducible refine gate_dst (N := 2) rfl ?_); refine box_event ?hg (N := 2) ?hd (cs := #[.bool false, .bool false, .bool false, .int .i64 0, .int .u16 0, .int .u32 0, .int .u32 0, .slice none 0 0, .int .u16 0, .slice none 0 0, .slice none 0 0, .int .i64 0]) (t := 45) ?hr ?_; (case hd => rfl); (case hg => rfl); (case hr => first | (go_simp; done) | (go_simp; rfl)); intro gb373 hg w3 hbox hb; have n0_ := bstE HB hb; have BK373 := Aside0.mk (hbox); have GW373 := geE hg HB; have GE373 := geE hg HB; clear HB; have HB := n0_; clear n0_; clear hb hbox hg; obtain ⟨Z4_0, Z4_1, Z4_2, Z4_3, Z4_4, Z4_5, Z4_6, Z4_7, Z4_8, Z4_9, Z4_10, Z4_11, Y4_0, Y4_1, Y4_2, Y4_3, Y4_4, Y4_5, Y4_6, Y4_7, Y4_8, Y4_9, Y4_10, Y4_11⟩ := bc12 BK373.out) | ((with_reducible refine gate_store (t := 45) (p := 2) rfl ?_); refine store_event (t := 45) (p := 2) (v := ?vo_w5) (w1 := ((((((((((((w3.setCell ⟨gb373, 0, none⟩ (.bool false)).setCell ⟨gb373, 1, none⟩ (.bool false)).setCell ⟨gb373, 2, none⟩ (.bool false)).setCell ⟨gb373, 3, none⟩ (.int .i64 0)).setCell ⟨gb373, 4, none⟩ (.int .u16 0)).setCell ⟨gb373, 5, none⟩ (.int .u32 0)).setCell ⟨gb373, 6, none⟩ (.int .u32 0)).setCell ⟨gb373, 7, none⟩ (.slice none 0 0)).setCell ⟨gb373, 8, none⟩ (.int .u16 0)).setCell ⟨gb373, 9, none⟩ (.slice none 0 0)).setCell ⟨gb373, 10, none⟩ (.slice none 0 0)).setCell ⟨gb373, 11, none⟩ (.int .i64 0))) ?hg ?ho ?hn ?hr ?_; (case ho => rfl); (case hg => rfl); (case hn => rfl); (case hr => first | (go_simp; done) | (go_simp; rfl)); intro w5 hw; replace BK373 : Aside0 (w5.heap[gb373]? = some (.cells #[.bool false, .bool false, .bool false, .int .i64 0, .int .u16 0, .int .u32 0, .int .u32 0, .slice none 0 0, .int .u16 0, .slice none 0 0, .slice none 0 0, .int .i64 0] 45 (0, 0))) := ⟨by rw [hw]; apply puts12; exact BK373.out⟩; replace HB := bsE hw HB GE373; clear hw))
  refine bodyPost_ret (results_ct rfl _ _ gb373 45 #[.bool false, .bool false, .bool false, .int .i64 0, .int .u16 0, .int .u32 0, .int .u32 0, .slice none 0 0, .int .u16 0, .slice none 0 0, .slice none 0 0, .int .i64 0] (0, 0) _ rfl (pk BK373) Try.underlying45 rfl (by kernel_rfl)) rfl ?_
  exact ⟨_, _, _, by first | rfl | (simp [errW_none, errW_some] <;> rfl) | (simp [*, errW_none, errW_some] <;> rfl), by first | exact Kd.R_nil _ _ _ _ _ | exact Kd.N_nil _ _ _ _ _ | exact Kd.V_nil _ _ _ _ _ | exact Kd.Q_nil _ _ _ _ _ | exact Kd.S_nil _ _ _ _ _, by first | exact Kd.R_nil _ _ _ _ _ | exact Kd.N_nil _ _ _ _ _ | exact Kd.V_nil _ _ _ _ _ | exact Kd.Q_nil _ _ _ _ _ | exact Kd.S_nil _ _ _ _ _, by first | exact Kd.R_nil _ _ _ _ _ | exact Kd.N_nil _ _ _ _ _ | exact Kd.V_nil _ _ _ _ _ | exact Kd.Q_nil _ _ _ _ _ | exact Kd.S_nil _ _ _ _ _, by repeat (first | (with_reducible first | exact HB.out | apply below_alloc | apply pw_below_drewN | apply below_drew1 | refine below_set ?_ GE373.out) | exact HB.out)⟩
 rw [if_neg c2] at H
 have c2b0 : decide (65535 < (l0.length : Int)) = false := decide_eq_false c2
 have c2b1 : decide (65535 < l0.length) = false := decide_eq_false (by omega)
 clear c2
 replace H := Option.bind_eq_some_iff.mp H
 obtain ⟨⟨t374, t375, t376, t377, t378, t379, t380, t381, t384, t385⟩, A60, H⟩ := H
 replace H : (if t385 = 0 then (if t375 = true then (if (wrap64 ((l0.length : Int) - t384)) < 4 then (some (false, false, false, 0, 0, 0, 0, ([] : List Int), 0, ([] : List Int), ([] : List Int), 0, 2)) else ((crossbarref05_Num.f k l0 (wrap64 (t384 + 2)) 2).bind fun t388 => (if (wrap64 ((wrap64 ((l0.length : Int) - t384)) - 4)) < (wrap64 (4 * (wrap64 (t388)))) then (some (false, false, false, 0, 0, 0, 0, ([] : List Int), 0, ([] : List Int), ([] : List Int), 0, 2)) else ((crossbarref05_Num.f k l0 t384 2).bind fun t389 => ((some (([] : List Int) : List Int)).bind fun y390 => (if 0 ≤ (wrap64 (t384 + 4)) then (if (wrap64 (t384 + 4)) ≤ (wrap64 ((wrap64 (t384 + 4)) + (wrap64 (4 * (wrap64 (t388)))))) then (if (wrap64 ((wrap64 (t384 + 4)) + (wrap64 (4 * (wrap64 (t388)))))) ≤ (l0.length : Int) then (if y390.length + ((l0.take ((wrap64 ((wrap64 (t384 + 4)) + (wrap64 (4 * (wrap64 (t388)))))) : Int).toNat).drop ((wrap64 (t384 + 4)) : Int).toNat).length < 140737488355328 then (crossbarref06_Read.j0 k l0 (wrap64 ((wrap64 (t384 + 4)) + (wrap64 (4 * (wrap64 (t388)))))) t374 t375 t376 t377 t378 t379 t380 t381 t374 t375 t376 t377 t378 t379 t380 t381 (IntKind.u16.wrap (t389)) (y390 ++ ((l0.take ((wrap64 ((wrap64 (t384 + 4)) + (wrap64 (4 * (wrap64 (t388)))))) : Int).toNat).drop ((wrap64 (t384 + 4)) : Int).toNat)) 0) else (none)) else (none)) else (none)) else (none))))))) else (crossbarref06_Read.j0 k l0 t384 t374 t375 t376 t377 t378 t379 t380 t381 t374 t375 t376 t377 t378 t379 t380 t381 0 ([] : List Int) 0)) else (some (false, false, false, 0, 0, 0, 0, ([] : List Int), 0, ([] : List Int), ([] : List Int), 0, t385))) = some (r1, r2, r3, r4, r5, r6, r7, r8, r9, r10, r11, r12, r13) := H
 have A6 := Aside0.mk A60
 clear A60
 by_cases c7 : t385 = 0
 ·rw [if_pos c7] at H
  have c7b0 : (t385 == 0) = true := beq_iff_eq.mpr c7
  have c7b1 : (t385 != 0) = false := bne_eq_false_iff_eq.mpr c7
  clear c7
  have HC8 := Aside0.mk H
  clear H
  go_enter Try.func26, Try.ntmps26
  go_upto_if 26 with (first | ((with_reducible refine gate_dst (N := 2) rfl ?_); refine box_event ?hg (N := 2) ?hd (cs := #[.bool false, .bool false, .bool false, .int .i64 0, .int .u16 0, .int .u32 0, .int .u32 0, .slice none 0 0, .int .u16 0, .slice none 0 0, .slice none 0 0, .int .i64 0]) (t := 45) ?hr ?_; (case hd => rfl); (case hg => rfl); (case hr => first | (go_simp; done) | (go_simp; rfl)); intro gb373 hg w9 hbox hb; have n0_ := bstE HB hb; have BK373 := Aside0.mk (hbox); have GW373 := geE hg HB; have GE373 := geE hg HB; clear HB; have HB := n0_; clear n0_; clear hb hbox hg) | ((with_reducible refine gate_callee (f := 42) rfl ?_); refine goesL_ (some 15) rfl rfl Try.func42 (by kernel_rfl) rfl #[.slice A0 l0.length c0] rfl (by (try simp only [List.map_toArray, List.map_cons, List.map_nil]); first | done | rfl | (simp only [List.length_drop, List.length_take]; rfl)) ?_; (with_reducible refine (crossbarref05_Read.calls k _ _ l0 t374 t375 t376 t377 t378 t379 t380 t381 t384 t385 _ ?side1 ?side2 A6.out).mono ?_); (case side1 => exact cbE HR0 HB); (case side2 => exact HC0.out); rintro e w10 ⟨v382, rfl, ho0, hb⟩; refine ⟨_, rfl, ?_⟩; have HO383 := Aside0.mk (Kd.R_lower ho0 (below_size (pB HB))); replace BK373 := bbE BK373 hb; replace HB := bstE HB hb; (try clear hb); (try clear hb2); (try clear hk); (try clear hi); (try clear ho0)) | ((with_reducible refine gate_dst (N := 4) rfl ?_); refine box_event ?hg (N := 4) ?hd (cs := #[.bool false, .bool false, .bool false, .int .i64 0, .int .u16 0, .int .u32 0, .int .u32 0, .slice none 0 0]) (t := 43) ?hr ?_; (case hd => rfl); (case hg => rfl); (case hr => first | (go_simp; done) | (go_simp; rfl)); intro gb386 hg w11 hbox hb; replace HO383 := rbE HO383 hb; have n1_ := bbE BK373 hb; have n2_ := bstE HB hb; have BK386 := Aside0.mk (hbox); have GW386 := geE hg HB; have GE386 := geE hg HB; have NB373_386 := nlE hg BK373; have NB386_373 := ngE hg BK373; clear BK373; clear HB; have BK373 := n1_; have HB := n2_; clear n1_ n2_; clear hb hbox hg; have hnb12 := NB386_373.out; have hnc12 := NB373_386.out; obtain ⟨Z13_0, Z13_1, Z13_2, Z13_3, Z13_4, Z13_5, Z13_6, Z13_7, Y13_0, Y13_1, Y13_2, Y13_3, Y13_4, Y13_5, Y13_6, Y13_7⟩ := bc8 BK386.out; obtain ⟨Ao14, co14, eo14⟩ := Kd.R_slice HO383.out; subst eo14) | ((with_reducible refine gate_store (t := 43) (p := 4) rfl ?_); refine store_event (t := 43) (p := 4) (v := ?vo_w15) (w1 := ((((((((w11.setCell ⟨gb386, 0, none⟩ (.bool t374)).setCell ⟨gb386, 1, none⟩ (.bool t375)).setCell ⟨gb386, 2, none⟩ (.bool t376)).setCell ⟨gb386, 3, none⟩ (.int .i64 t377)).setCell ⟨gb386, 4, none⟩ (.int .u16 t378)).setCell ⟨gb386, 5, none⟩ (.int .u32 t379)).setCell ⟨gb386, 6, none⟩ (.int .u32 t380)).setCell ⟨gb386, 7, none⟩ (.slice Ao14 t381.length co14))) ?hg ?ho ?hn ?hr ?_; (case ho => rfl); (case hg => rfl); (case hn => rfl); (case hr => first | (go_simp; done) | (go_simp; rfl)); intro w15 hw; replace HO383 := rfE hw HO383 BK386; replace BK373 := bfE hw BK373 NB373_386; replace BK386 : Aside0 (w15.heap[gb386]? = some (.cells #[.bool t374, .bool t375, .bool t376, .int .i64 t377, .int .u16 t378, .int .u32 t379, .int .u32 t380, .slice Ao14 t381.length co14] 43 (0, 0))) := ⟨by rw [hw]; apply puts8; exact BK386.out⟩; replace HB := bsE hw HB GE386; clear hw; obtain ⟨Z16_0, Z16_1, Z16_2, Z16_3, Z16_4, Z16_5, Z16_6, Z16_7, Y16_0, Y16_1, Y16_2, Y16_3, Y16_4, Y16_5, Y16_6, Y16_7⟩ := bc8 BK386.out) | ((with_reducible refine gate_dst (N := 7) rfl ?_); refine box_event ?hg (N := 7) ?hd (cs := #[.bool false, .bool false, .bool false, .int .i64 0, .int .u16 0, .int .u32 0, .int .u32 0, .slice none 0 0, .int .u16 0, .slice none 0 0, .slice none 0 0, .int .i64 0]) (t := 45) ?hr ?_; (case hd => rfl); (case hg => rfl); (case hr => first | (go_simp; done) | (go_simp; rfl)); intro gb387 hg w17 hbox hb; replace HO383 := rbE HO383 hb; have n1_ := bbE BK373 hb; have n2_ := bbE BK386 hb; have n3_ := bstE HB hb; have BK387 := Aside0.mk (hbox); have GW387 := geE hg HB; have GE387 := geE hg HB; have NB373_387 := nlE hg BK373; have NB387_373 := ngE hg BK373; have NB386_387 := nlE hg BK386; have NB387_386 := ngE hg BK386; clear BK373; clear BK386; clear HB; have BK373 := n1_; have BK386 := n2_; have HB := n3_; clear n1_ n2_ n3_; clear hb hbox hg; have hnb18 := NB387_373.out; have hnc18 := NB373_387.out; have hnb19 := NB387_386.out; have hnc19 := NB386_387.out; obtain ⟨Z20_0, Z20_1, Z20_2, Z20_3, Z20_4, Z20_5, Z20_6, Z20_7, Z20_8, Z20_9, Z20_10, Z20_11, Y20_0, Y20_1, Y20_2, Y20_3, Y20_4, Y20_5, Y20_6, Y20_7, Y20_8, Y20_9, Y20_10, Y20_11⟩ := bc12 BK387.out) | ((with_reducible refine gate_store (t := 45) (p := 7) rfl ?_); refine store_event (t := 45) (p := 7) (v := ?vo_w21) (w1 := ((((((((((((w17.setCell ⟨gb387, 0, none⟩ (.bool t374)).setCell ⟨gb387, 1, none⟩ (.bool t375)).setCell ⟨gb387, 2, none⟩ (.bool t376)).setCell ⟨gb387, 3, none⟩ (.int .i64 t377)).setCell ⟨gb387, 4, none⟩ (.int .u16 t378)).setCell ⟨gb387, 5, none⟩ (.int .u32 t379)).setCell ⟨gb387, 6, none⟩ (.int .u32 t380)).setCell ⟨gb387, 7, none⟩ (.slice Ao14 t381.length co14)).setCell ⟨gb387, 8, none⟩ (.int .u16 0)).setCell ⟨gb387, 9, none⟩ (.slice none 0 0)).setCell ⟨gb387, 10, none⟩ (.slice none 0 0)).setCell ⟨gb387, 11, none⟩ (.int .i64 0))) ?hg ?ho ?hn ?hr ?_; (case ho => rfl); (case hg => rfl); (case hn => rfl); (case hr => first | (go_simp; done) | (go_simp; rfl)); intro w21 hw; replace HO383 := rfE hw HO383 BK387; replace BK373 := bfE hw BK373 NB373_387; replace BK386 := bfE hw BK386 NB386_387; replace BK387 : Aside0 (w21.heap[gb387]? = some (.cells #[.bool t374, .bool t375, .bool t376, .int .i64 t377, .int .u16 t378, .int .u32 t379, .int .u32 t380, .slice Ao14 t381.length co14, .int .u16 0, .slice none 0 0, .slice none 0 0, .int .i64 0] 45 (0, 0))) := ⟨by rw [hw]; apply puts12; exact BK387.out⟩; replace HB := bsE hw HB GE387; clear hw; obtain ⟨Z22_0, Z22_1, Z22_2, Z22_3, Z22_4, Z22_5, Z22_6, Z22_7, Y22_0, Y22_1, Y22_2, Y22_3, Y22_4, Y22_5, Y22_6, Y22_7⟩ := bc8 BK386.out))
  (try simp only [Act.put, List.setIfInBounds_toArray, List.set_cons_zero, List.set_cons_succ])
  go_cut [5] (fun v5 wc => ∃ (kq : Nat) (x5_7 : Int) (x374000_7 : Bool) (x374001_7 : Bool) (x374002_7 : Bool) (x374003_7 : Int) (x374004_7 : Int) (x374005_7 : Int) (x374006_7 : Int) (x374008_7 : Int) (x374011_7 : Int) (x388008_7 : Int) (x388009_7 : List Int) (u388009 : Value), v5 = .int .i64 x5_7 ∧ Aside0 (crossbarref06_Read.j0 kq l0 x5_7 t374 t375 t376 t377 t378 t379 t380 t381 t374 t375 t376 t377 t378 t379 t380 t381 x388008_7 x388009_7 0 = some (r1, r2, r3, r4, r5, r6, r7, r8, r9, r10, r11, r12, r13)) ∧ Aside0 (kq ≤ k) ∧ Aside0 (Kd.R (Kd.int .u32) 40 wc w.heap.size (fun _ => True) (.slice Ao14 t381.length co14) t381) ∧ Aside0 (Kd.R (Kd.int .u32) 40 wc w.heap.size (fun _ => True) (.slice Ao14 t381.length co14) t381) ∧ Aside0 (Kd.R (Kd.int .u8) 5 wc w.heap.size (fun _ => True) u388009 x388009_7) ∧ Aside0 (wc.heap[gb373]? = some (.cells #[.bool x374000_7, .bool x374001_7, .bool x374002_7, .int .i64 x374003_7, .int .u16 x374004_7, .int .u32 x374005_7, .int .u32 x374006_7, (.slice none 0 0), .int .u16 x374008_7, (.slice none 0 0), (.slice none 0 0), .int .i64 x374011_7] 45 (0, 0))) ∧ Aside0 (wc.heap[gb386]? = some (.cells #[.bool t374, .bool t375, .bool t376, .int .i64 t377, .int .u16 t378, .int .u32 t379, .int .u32 t380, (.slice Ao14 t381.length co14)] 43 (0, 0))) ∧ Aside0 (wc.heap[gb387]? = some (.cells #[.bool t374, .bool t375, .bool t376, .int .i64 t377, .int .u16 t378, .int .u32 t379, .int .u32 t380, (.slice Ao14 t381.length co14), .int .u16 x388008_7, u388009, (.slice none 0 0), .int .i64 0] 45 (0, 0))) ∧ Aside0 (Below w.heap.size w wc))
  case first =>
   have H := HC8.out
   clear HC8
   by_cases c23 : t375 = true
   ·subst c23
    have H1 : (if (wrap64 ((l0.length : Int) - t384)) < 4 then (some (false, false, false, 0, 0, 0, 0, ([] : List Int), 0, ([] : List Int), ([] : List Int), 0, 2)) else ((crossbarref05_Num.f k l0 (wrap64 (t384 + 2)) 2).bind fun t388 => (if (wrap64 ((wrap64 ((l0.length : Int) - t384)) - 4)) < (wrap64 (4 * (wrap64 (t388)))) then (some (false, false, false, 0, 0, 0, 0, ([] : List Int), 0, ([] : List Int), ([] : List Int), 0, 2)) else ((crossbarref05_Num.f k l0 t384 2).bind fun t389 => ((some (([] : List Int) : List Int)).bind fun y390 => (if 0 ≤ (wrap64 (t384 + 4)) then (if (wrap64 (t384 + 4)) ≤ (wrap64 ((wrap64 (t384 + 4)) + (wrap64 (4 * (wrap64 (t388)))))) then (if (wrap64 ((wrap64 (t384 + 4)) + (wrap64 (4 * (wrap64 (t388)))))) ≤ (l0.length : Int) then (if y390.length + ((l0.take ((wrap64 ((wrap64 (t384 + 4)) + (wrap64 (4 * (wrap64 (t388)))))) : Int).toNat).drop ((wrap64 (t384 + 4)) : Int).toNat).length < 140737488355328 then (crossbarref06_Read.j0 k l0 (wrap64 ((wrap64 (t384 + 4)) + (wrap64 (4 * (wrap64 (t388)))))) t374 true t376 t377 t378 t379 t380 t381 t374 true t376 t377 t378 t379 t380 t381 (IntKind.u16.wrap (t389)) (y390 ++ ((l0.take ((wrap64 ((wrap64 (t384 + 4)) + (wrap64 (4 * (wrap64 (t388)))))) : Int).toNat).drop ((wrap64 (t384 + 4)) : Int).toNat)) 0) else (none)) else (none)) else (none)) else (none))))))) = some (r1, r2, r3, r4, r5, r6, r7, r8, r9, r10, r11, r12, r13) := by rw [if_pos rfl] at H; exact H
    clear H
    have H := H1
    clear H1
    by_cases c24 : (wrap64 ((l0.length : Int) - t384)) < 4
    ·rw [if_pos c24] at H
     have c24b0 : decide ((wrap64 ((l0.length : Int) - t384)) < 4) = true := decide_eq_true c24
     clear c24
     (first | rw [c24b0] | (simp only [i64_w, i32_w]; rw [c24b0]) | skip)
     simp only [Option.some.injEq, Prod.mk.injEq] at H
     obtain ⟨rfl, rfl, rfl, rfl, rfl, rfl, rfl, rfl, rfl, rfl, rfl, rfl, rfl⟩ := H
     have hnb25 := NB373_386.out
     have hnc25 := NB386_373.out
     have hnb26 := NB373_387.out
     have hnc26 := NB387_373.out
     obtain ⟨Z27_0, Z27_1, Z27_2, Z27_3, Z27_4, Z27_5, Z27_6, Z27_7, Z27_8, Z27_9, Z27_10, Z27_11, Y27_0, Y27_1, Y27_2, Y27_3, Y27_4, Y27_5, Y27_6, Y27_7, Y27_8, Y27_9, Y27_10, Y27_11⟩ := bc12 BK373.out
     go_wp2_with (first | ((with_reducible refine gate_store (t := 45) (p := 2) rfl ?_); refine store_event (t := 45) (p := 2) (v := ?vo_w28) (w1 := ((((((((((((w21.setCell ⟨gb373, 0, none⟩ (.bool false)).setCell ⟨gb373, 1, none⟩ (.bool false)).setCell ⟨gb373, 2, none⟩ (.bool false)).setCell ⟨gb373, 3, none⟩ (.int .i64 0)).setCell ⟨gb373, 4, none⟩ (.int .u16 0)).setCell ⟨gb373, 5, none⟩ (.int .u32 0)).setCell ⟨gb373, 6, none⟩ (.int .u32 0)).setCell ⟨gb373, 7, none⟩ (.slice none 0 0)).setCell ⟨gb373, 8, none⟩ (.int .u16 0)).setCell ⟨gb373, 9, none⟩ (.slice none 0 0)).setCell ⟨gb373, 10, none⟩ (.slice none 0 0)).setCell ⟨gb373, 11, none⟩ (.int .i64 0))) ?hg ?ho ?hn ?hr ?_; (case ho => rfl); (case hg => rfl); (case hn => rfl); (case hr => first | (go_simp; done) | (go_simp; rfl)); intro w28 hw; replace HO383 := rfE hw HO383 BK373; replace BK373 : Aside0 (w28.heap[gb373]? = some (.cells #[.bool false, .bool false, .bool false, .int .i64 0, .int .u16 0, .int .u32 0, .int .u32 0, .slice none 0 0, .int .u16 0, .slice none 0 0, .slice none 0 0, .int .i64 0] 45 (0, 0))) := ⟨by rw [hw]; apply puts12; exact BK373.out⟩; replace BK386 := bfE hw BK386 NB386_373; replace BK387 := bfE hw BK387 NB387_373; replace HB := bsE hw HB GE373; clear hw))
     refine bodyPost_ret (results_ct rfl _ _ gb373 45 #[.bool false, .bool false, .bool false, .int .i64 0, .int .u16 0, .int .u32 0, .int .u32 0, .slice none 0 0, .int .u16 0, .slice none 0 0, .slice none 0 0, .int .i64 0] (0, 0) _ rfl (pk BK373) Try.underlying45 rfl (by kernel_rfl)) rfl ?_
     exact ⟨_, _, _, by first | rfl | (simp [errW_none, errW_some] <;> rfl) | (simp [*, errW_none, errW_some] <;> rfl), by first | exact Kd.R_nil _ _ _ _ _ | exact Kd.N_nil _ _ _ _ _ | exact Kd.V_nil _ _ _ _ _ | exact Kd.Q_nil _ _ _ _ _ | exact Kd.S_nil _ _ _ _ _, by first | exact Kd.R_nil _ _ _ _ _ | exact Kd.N_nil _ _ _ _ _ | exact Kd.V_nil _ _ _ _ _ | exact Kd.Q_nil _ _ _ _ _ | exact Kd.S_nil _ _ _ _ _, by first | exact Kd.R_nil _ _ _ _ _ | exact Kd.N_nil _ _ _ _ _ | exact Kd.V_nil _ _ _ _ _ | exact Kd.Q_nil _ _ _ _ _ | exact Kd.S_nil _ _ _ _ _, by repeat (first | (with_reducible first | exact HB.out | apply below_alloc | apply pw_below_drewN | apply below_drew1 | refine below_set ?_ GE373.out | refine below_set ?_ GE386.out | refine below_set ?_ GE387.out) | exact HB.out)⟩
    rw [if_neg c24] at H
    have c24b0 : decide ((wrap64 ((l0.length : Int) - t384)) < 4) = false := decide_eq_false c24
    clear c24
    (first | rw [c24b0] | (simp only [i64_w, i32_w]; rw [c24b0]) | skip)
    replace H := Option.bind_eq_some_iff.mp H
    obtain ⟨t388, A290, H⟩ := H
    replace H : (if (wrap64 ((wrap64 ((l0.length : Int) - t384)) - 4)) < (wrap64 (4 * (wrap64 (t388)))) then (some (false, false, false, 0, 0, 0, 0, ([] : List Int), 0, ([] : List Int), ([] : List Int), 0, 2)) else ((crossbarref05_Num.f k l0 t384 2).bind fun t389 => ((some (([] : List Int) : List Int)).bind fun y390 => (if 0 ≤ (wrap64 (t384 + 4)) then (if (wrap64 (t384 + 4)) ≤ (wrap64 ((wrap64 (t384 + 4)) + (wrap64 (4 * (wrap64 (t388)))))) then (if (wrap64 ((wrap64 (t384 + 4)) + (wrap64 (4 * (wrap64 (t388)))))) ≤ (l0.length : Int) then (if y390.length + ((l0.take ((wrap64 ((wrap64 (t384 + 4)) + (wrap64 (4 * (wrap64 (t388)))))) : Int).toNat).drop ((wrap64 (t384 + 4)) : Int).toNat).length < 140737488355328 then (crossbarref06_Read.j0 k l0 (wrap64 ((wrap64 (t384 + 4)) + (wrap64 (4 * (wrap64 (t388)))))) t374 true t376 t377 t378 t379 t380 t381 t374 true t376 t377 t378 t379 t380 t381 (IntKind.u16.wrap (t389)) (y390 ++ ((l0.take ((wrap64 ((wrap64 (t384 + 4)) + (wrap64 (4 * (wrap64 (t388)))))) : Int).toNat).drop ((wrap64 (t384 + 4)) : Int).toNat)) 0) else (none)) else (none)) else (none)) else (none))))) = some (r1, r2, r3, r4, r5, r6, r7, r8, r9, r10, r11, r12, r13) := H
    have A29 := Aside0.mk A290
    clear A290
    by_cases c30 : (wrap64 ((wrap64 ((l0.length : Int) - t384)) - 4)) < (wrap64 (4 * (wrap64 (t388))))
    ·rw [if_pos c30] at H
     have c30b0 : decide ((wrap64 ((wrap64 ((l0.length : Int) - t384)) - 4)) < (wrap64 (4 * (wrap64 (t388))))) = true := decide_eq_true c30
     clear c30
     simp only [Option.some.injEq, Prod.mk.injEq] at H
     obtain ⟨rfl, rfl, rfl, rfl, rfl, rfl, rfl, rfl, rfl, rfl, rfl, rfl, rfl⟩ := H
     go_wp2_with (first | ((with_reducible refine gate_callee (f := 43) rfl ?_); refine goesL_ (some 36) rfl rfl Try.func43 (by kernel_rfl) rfl #[.slice A0 l0.length c0, .int .i64 (wrap64 (t384 + 2)), .int .i64 2] rfl (by (try simp only [List.map_toArray, List.map_cons, List.map_nil]); first | done | rfl | (simp only [List.length_drop, List.length_take]; rfl)) ?_; (with_reducible refine (crossbarref05_Num.calls k _ _ l0 (wrap64 (t384 + 2)) 2 t388 _ ?side1 ?side2 A29.out).mono ?_); (case side1 => exact cbE HR0 HB); (case side2 => exact HC0.out); rintro e w' ⟨rfl, ⟨nd, rfl⟩⟩; refine ⟨_, rfl, ?_⟩; (try (rw [drewN_self w21]; generalize hq_ : World.drewN w21 _ = w21; replace HO383 : Aside0 (Kd.R (Kd.int .u32) 40 w21 w.heap.size (fun _ => True) (.slice Ao14 t381.length co14) t381) := ⟨by rw [← hq_]; exact (pR HO383)⟩; replace BK373 : Aside0 (w21.heap[gb373]? = some (.cells #[.bool false, .bool false, .bool false, .int .i64 0, .int .u16 0, .int .u32 0, .int .u32 0, .slice none 0 0, .int .u16 0, .slice none 0 0, .slice none 0 0, .int .i64 0] 45 (0, 0))) := ⟨by rw [← hq_]; exact (pk BK373)⟩; replace BK386 : Aside0 (w21.heap[gb386]? = some (.cells #[.bool t374, .bool true, .bool t376, .int .i64 t377, .int .u16 t378, .int .u32 t379, .int .u32 t380, .slice Ao14 t381.length co14] 43 (0, 0))) := ⟨by rw [← hq_]; exact (pk BK386)⟩; replace BK387 : Aside0 (w21.heap[gb387]? = some (.cells #[.bool t374, .bool true, .bool t376, .int .i64 t377, .int .u16 t378, .int .u32 t379, .int .u32 t380, .slice Ao14 t381.length co14, .int .u16 0, .slice none 0 0, .slice none 0 0, .int .i64 0] 45 (0, 0))) := ⟨by rw [← hq_]; exact (pk BK387)⟩; replace HB : Aside0 (Below w.heap.size w w21) := ⟨by rw [← hq_]; exact (pB HB)⟩; clear hq_)); have hnb31 := NB373_386.out; have hnc31 := NB386_373.out; have hnb32 := NB373_387.out; have hnc32 := NB387_373.out; obtain ⟨Z33_0, Z33_1, Z33_2, Z33_3, Z33_4, Z33_5, Z33_6, Z33_7, Z33_8, Z33_9, Z33_10, Z33_11, Y33_0, Y33_1, Y33_2, Y33_3, Y33_4, Y33_5, Y33_6, Y33_7, Y33_8, Y33_9, Y33_10, Y33_11⟩ := bc12 BK373.out) | ((with_reducible refine gate_store (t := 45) (p := 2) rfl ?_); refine store_event (t := 45) (p := 2) (v := ?vo_w34) (w1 := ((((((((((((w21.setCell ⟨gb373, 0, none⟩ (.bool false)).setCell ⟨gb373, 1, none⟩ (.bool false)).setCell ⟨gb373, 2, none⟩ (.bool false)).setCell ⟨gb373, 3, none⟩ (.int .i64 0)).setCell ⟨gb373, 4, none⟩ (.int .u16 0)).setCell ⟨gb373, 5, none⟩ (.int .u32 0)).setCell ⟨gb373, 6, none⟩ (.int .u32 0)).setCell ⟨gb373, 7, none⟩ (.slice none 0 0)).setCell ⟨gb373, 8, none⟩ (.int .u16 0)).setCell ⟨gb373, 9, none⟩ (.slice none 0 0)).setCell ⟨gb373, 10, none⟩ (.slice none 0 0)).setCell ⟨gb373, 11, none⟩ (.int .i64 0))) ?hg ?ho ?hn ?hr ?_; (case ho => rfl); (case hg => rfl); (case hn => rfl); (case hr => first | (go_simp; done) | (go_simp; rfl)); intro w34 hw; replace HO383 := rfE hw HO383 BK373; replace BK373 : Aside0 (w34.heap[gb373]? = some (.cells #[.bool false, .bool false, .bool false, .int .i64 0, .int .u16 0, .int .u32 0, .int .u32 0, .slice none 0 0, .int .u16 0, .slice none 0 0, .slice none 0 0, .int .i64 0] 45 (0, 0))) := ⟨by rw [hw]; apply puts12; exact BK373.out⟩; replace BK386 := bfE hw BK386 NB386_373; replace BK387 := bfE hw BK387 NB387_373; replace HB := bsE hw HB GE373; clear hw))
     refine bodyPost_ret (results_ct rfl _ _ gb373 45 #[.bool false, .bool false, .bool false, .int .i64 0, .int .u16 0, .int .u32 0, .int .u32 0, .slice none 0 0, .int .u16 0, .slice none 0 0, .slice none 0 0, .int .i64 0] (0, 0) _ rfl (pk BK373) Try.underlying45 rfl (by kernel_rfl)) rfl ?_
     exact ⟨_, _, _, by first | rfl | (simp [errW_none, errW_some] <;> rfl) | (simp [*, errW_none, errW_some] <;> rfl), by first | exact Kd.R_nil _ _ _ _ _ | exact Kd.N_nil _ _ _ _ _ | exact Kd.V_nil _ _ _ _ _ | exact Kd.Q_nil _ _ _ _ _ | exact Kd.S_nil _ _ _ _ _, by first | exact Kd.R_nil _ _ _ _ _ | exact Kd.N_nil _ _ _ _ _ | exact Kd.V_nil _ _ _ _ _ | exact Kd.Q_nil _ _ _ _ _ | exact Kd.S_nil _ _ _ _ _, by first | exact Kd.R_nil _ _ _ _ _ | exact Kd.N_nil _ _ _ _ _ | exact Kd.V_nil _ _ _ _ _ | exact Kd.Q_nil _ _ _ _ _ | exact Kd.S_nil _ _ _ _ _, by repeat (first | (with_reducible first | exact HB.out | apply below_alloc | apply pw_below_drewN | apply below_drew1 | refine below_set ?_ GE373.out | refine below_set ?_ GE386.out | refine below_set ?_ GE387.out) | exact HB.out)⟩
    rw [if_neg c30] at H
    have c30b0 : decide ((wrap64 ((wrap64 ((l0.length : Int) - t384)) - 4)) < (wrap64 (4 * (wrap64 (t388))))) = false := decide_eq_false c30
    clear c30
    replace H := Option.bind_eq_some_iff.mp H
    obtain ⟨t389, A350, H⟩ := H
    replace H : ((some (([] : List Int) : List Int)).bind fun y390 => (if 0 ≤ (wrap64 (t384 + 4)) then (if (wrap64 (t384 + 4)) ≤ (wrap64 ((wrap64 (t384 + 4)) + (wrap64 (4 * (wrap64 (t388)))))) then (if (wrap64 ((wrap64 (t384 + 4)) + (wrap64 (4 * (wrap64 (t388)))))) ≤ (l0.length : Int) then (if y390.length + ((l0.take ((wrap64 ((wrap64 (t384 + 4)) + (wrap64 (4 * (wrap64 (t388)))))) : Int).toNat).drop ((wrap64 (t384 + 4)) : Int).toNat).length < 140737488355328 then (crossbarref06_Read.j0 k l0 (wrap64 ((wrap64 (t384 + 4)) + (wrap64 (4 * (wrap64 (t388)))))) t374 true t376 t377 t378 t379 t380 t381 t374 true t376 t377 t378 t379 t380 t381 (IntKind.u16.wrap (t389)) (y390 ++ ((l0.take ((wrap64 ((wrap64 (t384 + 4)) + (wrap64 (4 * (wrap64 (t388)))))) : Int).toNat).drop ((wrap64 (t384 + 4)) : Int).toNat)) 0) else (none)) else (none)) else (none)) else (none))) = some (r1, r2, r3, r4, r5, r6, r7, r8, r9, r10, r11, r12, r13) := H
    have A35 := Aside0.mk A350
    clear A350
    obtain ⟨y390, hy390⟩ : ∃ y_ : List Int, y_ = (([] : List Int)) := ⟨_, rfl⟩
    replace H : (if 0 ≤ (wrap64 (t384 + 4)) then (if (wrap64 (t384 + 4)) ≤ (wrap64 ((wrap64 (t384 + 4)) + (wrap64 (4 * (wrap64 (t388)))))) then (if (wrap64 ((wrap64 (t384 + 4)) + (wrap64 (4 * (wrap64 (t388)))))) ≤ (l0.length : Int) then (if y390.length + ((l0.take ((wrap64 ((wrap64 (t384 + 4)) + (wrap64 (4 * (wrap64 (t388)))))) : Int).toNat).drop ((wrap64 (t384 + 4)) : Int).toNat).length < 140737488355328 then (crossbarref06_Read.j0 k l0 (wrap64 ((wrap64 (t384 + 4)) + (wrap64 (4 * (wrap64 (t388)))))) t374 true t376 t377 t378 t379 t380 t381 t374 true t376 t377 t378 t379 t380 t381 (IntKind.u16.wrap (t389)) (y390 ++ ((l0.take ((wrap64 ((wrap64 (t384 + 4)) + (wrap64 (4 * (wrap64 (t388)))))) : Int).toNat).drop ((wrap64 (t384 + 4)) : Int).toNat)) 0) else (none)) else (none)) else (none)) else (none)) = some (r1, r2, r3, r4, r5, r6, r7, r8, r9, r10, r11, r12, r13) := by first | (rw [hy390]; with_reducible exact H) | (have H2_ := (Option.bind_some _ _).symm.trans H; rw [hy390]; with_reducible exact H2_) | (have H2_ := (Option.bind_some _ _).symm.trans H; with_reducible exact H2_) | with_reducible exact H | (rw [hy390]; exact H) | exact H
    have Ny390 := Aside0.mk hy390
    clear hy390
    obtain ⟨ji36, hji36⟩ : ∃ j_ : Int, (wrap64 (t384 + 4)) = j_ := ⟨_, rfl⟩
    replace H : (if 0 ≤ (ji36) then (if (ji36) ≤ (wrap64 ((ji36) + (wrap64 (4 * (wrap64 (t388)))))) then (if (wrap64 ((ji36) + (wrap64 (4 * (wrap64 (t388)))))) ≤ (l0.length : Int) then (if y390.length + ((l0.take ((wrap64 ((ji36) + (wrap64 (4 * (wrap64 (t388)))))) : Int).toNat).drop ((ji36) : Int).toNat).length < 140737488355328 then (crossbarref06_Read.j0 k l0 (wrap64 ((ji36) + (wrap64 (4 * (wrap64 (t388)))))) t374 true t376 t377 t378 t379 t380 t381 t374 true t376 t377 t378 t379 t380 t381 (IntKind.u16.wrap (t389)) (y390 ++ ((l0.take ((wrap64 ((ji36) + (wrap64 (4 * (wrap64 (t388)))))) : Int).toNat).drop ((ji36) : Int).toNat)) 0) else (none)) else (none)) else (none)) else (none)) = some (r1, r2, r3, r4, r5, r6, r7, r8, r9, r10, r11, r12, r13) := by first | (rw [hji36] at H; exact H) | (simp only [hji36] at H ⊢; exact H)
    (try rw [hji36] at A29)
    (try rw [hji36] at A35)
    have hji36w : (IntKind.i64.wrap (t384 + 4)) = ji36 := (i64_w _).trans hji36
    by_cases c37 : 0 ≤ (ji36)
    ·rw [if_pos c37] at H
     have c37b0 := eq_true c37
     have c37b1 : decide (0 ≤ (ji36)) = true := decide_eq_true c37
     clear c37
     by_cases c38 : (ji36) ≤ (wrap64 ((ji36) + (wrap64 (4 * (wrap64 (t388))))))
     ·rw [if_pos c38] at H
      have c38b0 := eq_true c38
      have c38b1 : decide ((ji36) ≤ (wrap64 ((ji36) + (wrap64 (4 * (wrap64 (t388))))))) = true := decide_eq_true c38
      by_cases c39 : (wrap64 ((ji36) + (wrap64 (4 * (wrap64 (t388)))))) ≤ (l0.length : Int)
      ·rw [if_pos c39] at H
       have c39b0 := eq_true c39
       have c39b1 : decide ((wrap64 ((ji36) + (wrap64 (4 * (wrap64 (t388)))))) ≤ (l0.length : Int)) = true := decide_eq_true c39
       by_cases c40 : y390.length + ((l0.take ((wrap64 ((ji36) + (wrap64 (4 * (wrap64 (t388)))))) : Int).toNat).drop ((ji36) : Int).toNat).length < 140737488355328
       ·rw [if_pos c40] at H
        have LMc40 := Aside0.mk c40
        clear c40
        obtain ⟨y394, hy394⟩ : ∃ y_ : List Int, y_ = (y390 ++ ((l0.take ((wrap64 ((ji36) + (wrap64 (4 * (wrap64 (t388)))))) : Int).toNat).drop ((ji36) : Int).toNat)) := ⟨_, rfl⟩
        replace H : (crossbarref06_Read.j0 k l0 (wrap64 ((ji36) + (wrap64 (4 * (wrap64 (t388)))))) t374 true t376 t377 t378 t379 t380 t381 t374 true t376 t377 t378 t379 t380 t381 (IntKind.u16.wrap (t389)) y394 0) = some (r1, r2, r3, r4, r5, r6, r7, r8, r9, r10, r11, r12, r13) := by first | (rw [hy394]; with_reducible exact H) | (have H2_ := (Option.bind_some _ _).symm.trans H; rw [hy394]; with_reducible exact H2_) | (have H2_ := (Option.bind_some _ _).symm.trans H; with_reducible exact H2_) | with_reducible exact H | (rw [hy394]; exact H) | exact H
        have Ny394 := Aside0.mk hy394
        clear hy394
        have H' := Aside0.mk H
        clear H
        go_wp2_with (first | ((with_reducible refine gate_callee (f := 43) rfl ?_); refine goesL_ (some 36) rfl rfl Try.func43 (by kernel_rfl) rfl #[.slice A0 l0.length c0, .int .i64 (wrap64 (t384 + 2)), .int .i64 2] rfl (by (try simp only [List.map_toArray, List.map_cons, List.map_nil]); first | done | rfl | (simp only [List.length_drop, List.length_take]; rfl)) ?_; (with_reducible refine (crossbarref05_Num.calls k _ _ l0 (wrap64 (t384 + 2)) 2 t388 _ ?side1 ?side2 A29.out).mono ?_); (case side1 => exact cbE HR0 HB); (case side2 => exact HC0.out); rintro e w' ⟨rfl, ⟨nd, rfl⟩⟩; refine ⟨_, rfl, ?_⟩; (try (rw [drewN_self w21]; generalize hq_ : World.drewN w21 _ = w21; replace HO383 : Aside0 (Kd.R (Kd.int .u32) 40 w21 w.heap.size (fun _ => True) (.slice Ao14 t381.length co14) t381) := ⟨by rw [← hq_]; exact (pR HO383)⟩; replace BK373 : Aside0 (w21.heap[gb373]? = some (.cells #[.bool false, .bool false, .bool false, .int .i64 0, .int .u16 0, .int .u32 0, .int .u32 0, .slice none 0 0, .int .u16 0, .slice none 0 0, .slice none 0 0, .int .i64 0] 45 (0, 0))) := ⟨by rw [← hq_]; exact (pk BK373)⟩; replace BK386 : Aside0 (w21.heap[gb386]? = some (.cells #[.bool t374, .bool true, .bool t376, .int .i64 t377, .int .u16 t378, .int .u32 t379, .int .u32 t380, .slice Ao14 t381.length co14] 43 (0, 0))) := ⟨by rw [← hq_]; exact (pk BK386)⟩; replace BK387 : Aside0 (w21.heap[gb387]? = some (.cells #[.bool t374, .bool true, .bool t376, .int .i64 t377, .int .u16 t378, .int .u32 t379, .int .u32 t380, .slice Ao14 t381.length co14, .int .u16 0, .slice none 0 0, .slice none 0 0, .int .i64 0] 45 (0, 0))) := ⟨by rw [← hq_]; exact (pk BK387)⟩; replace HB : Aside0 (Below w.heap.size w w21) := ⟨by rw [← hq_]; exact (pB HB)⟩; clear hq_))) | ((with_reducible refine gate_callee (f := 43) rfl ?_); refine goesL_ (some 49) rfl rfl Try.func43 (by kernel_rfl) rfl #[.slice A0 l0.length c0, .int .i64 t384, .int .i64 2] rfl (by (try simp only [List.map_toArray, List.map_cons, List.map_nil]); first | done | rfl | (simp only [List.length_drop, List.length_take]; rfl)) ?_; (with_reducible refine (crossbarref05_Num.calls k _ _ l0 t384 2 t389 _ ?side1 ?side2 A35.out).mono ?_); (case side1 => exact cbE HR0 HB); (case side2 => exact HC0.out); rintro e w' ⟨rfl, ⟨nd, rfl⟩⟩; refine ⟨_, rfl, ?_⟩; (try (rw [drewN_self w21]; generalize hq_ : World.drewN w21 _ = w21; replace HO383 : Aside0 (Kd.R (Kd.int .u32) 40 w21 w.heap.size (fun _ => True) (.slice Ao14 t381.length co14) t381) := ⟨by rw [← hq_]; exact (pR HO383)⟩; replace BK373 : Aside0 (w21.heap[gb373]? = some (.cells #[.bool false, .bool false, .bool false, .int .i64 0, .int .u16 0, .int .u32 0, .int .u32 0, .slice none 0 0, .int .u16 0, .slice none 0 0, .slice none 0 0, .int .i64 0] 45 (0, 0))) := ⟨by rw [← hq_]; exact (pk BK373)⟩; replace BK386 : Aside0 (w21.heap[gb386]? = some (.cells #[.bool t374, .bool true, .bool t376, .int .i64 t377, .int .u16 t378, .int .u32 t379, .int .u32 t380, .slice Ao14 t381.length co14] 43 (0, 0))) := ⟨by rw [← hq_]; exact (pk BK386)⟩; replace BK387 : Aside0 (w21.heap[gb387]? = some (.cells #[.bool t374, .bool true, .bool t376, .int .i64 t377, .int .u16 t378, .int .u32 t379, .int .u32 t380, .slice Ao14 t381.length co14, .int .u16 0, .slice none 0 0, .slice none 0 0, .int .i64 0] 45 (0, 0))) := ⟨by rw [← hq_]; exact (pk BK387)⟩; replace HB : Aside0 (Below w.heap.size w w21) := ⟨by rw [← hq_]; exact (pB HB)⟩; clear hq_)); have hnb41 := NB387_373.out; have hnc41 := NB373_387.out; have hnb42 := NB387_386.out; have hnc42 := NB386_387.out; obtain ⟨Z43_0, Z43_1, Z43_2, Z43_3, Z43_4, Z43_5, Z43_6, Z43_7, Z43_8, Z43_9, Z43_10, Z43_11, Y43_0, Y43_1, Y43_2, Y43_3, Y43_4, Y43_5, Y43_6, Y43_7, Y43_8, Y43_9, Y43_10, Y43_11⟩ := bc12 BK387.out) | ((with_reducible refine gate_store (t := 39) (p := 51) rfl ?_); refine store_event (t := 39) (p := 51) (v := ?vo_w44) (w1 := (w21.setCell ⟨gb387, 8, none⟩ (.int .u16 (IntKind.u16.wrap (t389))))) ?hg ?ho ?hn ?hr ?_; (case ho => rfl); (case hg => rfl); (case hn => rfl); (case hr => first | (go_simp; done) | (go_simp; rfl)); intro w44 hw; replace HO383 := rfE hw HO383 BK387; replace BK373 := bfE hw BK373 NB373_387; replace BK386 := bfE hw BK386 NB386_387; replace BK387 : Aside0 (w44.heap[gb387]? = some (.cells #[.bool t374, .bool true, .bool t376, .int .i64 t377, .int .u16 t378, .int .u32 t379, .int .u32 t380, .slice Ao14 t381.length co14, .int .u16 (IntKind.u16.wrap (t389)), .slice none 0 0, .slice none 0 0, .int .i64 0] 45 (0, 0))) := ⟨by rw [hw]; exact blk_put BK387.out 8 _ rfl⟩; replace HB := bsE hw HB GE387; clear hw) | ((with_reducible refine gate_dst (N := 52) rfl ?_); refine Kd.R_lit (Kd.int .u8) _ 5 ?hg (N := 52) ?hd (xs := ([] : List Int)) (inner := []) (ok := fun _ => True) (okp := fun _ => True) ?hr ?hp (fun _ hk => hk) trivial (Below.refl _ _) (Nat.le_refl _) (by simp) ?_; (case hd => rfl); (case hg => rfl); (case hr => first | (go_simp; done) | (go_simp; rfl)); (case hp => exact (Reps.none _ _)); intro v391 w45 ho46 hb hg_ hnew_; clear hg_ hnew_; (first | rw [← Ny390.out] at ho46 | (simp only [Int.reduceToNat] at ho46; rw [← Ny390.out] at ho46)); replace HO383 := rbE HO383 hb; have HO392 := Aside0.mk (Kd.R_lower ho46 (below_size (pB HB))); replace BK373 := bbE BK373 hb; replace BK386 := bbE BK386 hb; replace BK387 := bbE BK387 hb; replace HB := bstE HB hb; clear hb ho46; obtain ⟨i047, hi047, _, hsz47, _⟩ := info_parts info5; obtain ⟨A47, hcut47, hA47, hC47⟩ := print_mid_of (P := Try.prog) (Value.int .u8) 0 22 5 .i64 .i64 Try.underlying22 hi047 hsz47 A0 c0 l0 (ji36) (wrap64 ((ji36) + (wrap64 (4 * (wrap64 (t388)))))) (oT (by first | (with_reducible assumption) | assumption)) (by first | omega | exact of_decide_eq_true (by first | (with_reducible assumption) | assumption)) (oT (by first | (with_reducible assumption) | assumption)) HC0.out; have HR393 := Aside0.mk (Kd.C_of_reads (h1 := fun _ => rfl) (hA47 _ (Kd.reads_of_C HR0.out))); have HC393 := Aside0.mk hC47; clear hA47 hC47 hi047 hsz47) | ((with_reducible refine gate_builtin (b := .append) (xs := #[.tmp 52, .tmp 60]) rfl ?_); at_builtin; refine Kd.R_append_rows (Kd.int .u8) (w0 := w) w.heap.size rfl (.tmp 52) (.tmp 60) 22 5 (.int .u8 0) 1 rfl Try.underlying22 info5 rfl (by decide) (by omega) v391 y390 ((l0.take ((wrap64 ((ji36) + (wrap64 (4 * (wrap64 (t388)))))) : Int).toNat).drop ((ji36) : Int).toNat) _ _ _ (fun _ => True) (fun _ => False) rfl rfl ?aO ?aR (fun _ _ h => h) (fun _ h => h.elim) ?aF ?aB ?aS ?aL ?_; (case aR => first | (rw [← show ((l0.take ((wrap64 ((ji36) + (wrap64 (4 * (wrap64 (t388)))))) : Int).toNat).drop ((ji36) : Int).toNat).length = ((wrap64 ((ji36) + (wrap64 (4 * (wrap64 (t388)))))).toNat - (ji36).toNat) from (by rw [List.length_drop, List.length_take]; have h_ : ((wrap64 ((ji36) + (wrap64 (4 * (wrap64 (t388)))))) : Int) ≤ (l0.length : Int) := of_decide_eq_true (by first | (with_reducible assumption) | assumption); omega)]; repeat (first | exact (Kd.C_below HR393.out HB.out) | (with_reducible refine Kd.C_alloc ?_ _) | (with_reducible refine Kd.C_drewN ?_ _) | (with_reducible refine Kd.C_drew ?_))) | (repeat (first | exact (Kd.C_below HR393.out HB.out) | (with_reducible refine Kd.C_alloc ?_ _) | (with_reducible refine Kd.C_drewN ?_ _) | (with_reducible refine Kd.C_drew ?_)))); (case aB => exact (pB HB)); (case aF => exact (fun _ _ => trivial)); (case aO => exact (pR HO392)); (case aS => exact (below_size (pB HB))); (case aL => have := LMc40.out; have hlx_ := (show ((l0.take ((wrap64 ((ji36) + (wrap64 (4 * (wrap64 (t388)))))) : Int).toNat).drop ((ji36) : Int).toNat).length = ((wrap64 ((ji36) + (wrap64 (4 * (wrap64 (t388)))))).toNat - (ji36).toNat) from (by rw [List.length_drop, List.length_take]; have h_ : ((wrap64 ((ji36) + (wrap64 (4 * (wrap64 (t388)))))) : Int) ≤ (l0.length : Int) := of_decide_eq_true (by first | (with_reducible assumption) | assumption); omega)); omega); intro v395 w48 ho hb hg hat; rw [← Ny394.out] at ho; replace BK373 := Aside0.mk (blk_grown (g := gb373) (o := .cells #[.bool false, .bool false, .bool false, .int .i64 0, .int .u16 0, .int .u32 0, .int .u32 0, .slice none 0 0, .int .u16 0, .slice none 0 0, .slice none 0 0, .int .i64 0] 45 (0, 0)) (pk BK373) hg (Kd.R_ne HO392.out BK373.out (by decide))); replace HO383 := Aside0.mk (Kd.R_over' (pR HO383) (Kd.R_typed (pR HO392)) (by decide) hg); replace BK386 := Aside0.mk (blk_grown (g := gb386) (o := .cells #[.bool t374, .bool true, .bool t376, .int .i64 t377, .int .u16 t378, .int .u32 t379, .int .u32 t380, .slice Ao14 t381.length co14] 43 (0, 0)) (pk BK386) hg (Kd.R_ne HO392.out BK386.out (by decide))); replace BK387 := Aside0.mk (blk_grown (g := gb387) (o := .cells #[.bool t374, .bool true, .bool t376, .int .i64 t377, .int .u16 t378, .int .u32 t379, .int .u32 t380, .slice Ao14 t381.length co14, .int .u16 (IntKind.u16.wrap (t389)), .slice none 0 0, .slice none 0 0, .int .i64 0] 45 (0, 0)) (pk BK387) hg (Kd.R_ne HO392.out BK387.out (by decide))); replace HB := Aside0.mk (hb); have HO396 := Aside0.mk (ho); clear HO392; clear ho hb hg hat; obtain ⟨Ao49, co49, eo49⟩ := Kd.R_slice HO396.out; subst eo49; obtain ⟨Z50_0, Z50_1, Z50_2, Z50_3, Z50_4, Z50_5, Z50_6, Z50_7, Z50_8, Z50_9, Z50_10, Z50_11, Y50_0, Y50_1, Y50_2, Y50_3, Y50_4, Y50_5, Y50_6, Y50_7, Y50_8, Y50_9, Y50_10, Y50_11⟩ := bc12 BK387.out) | ((with_reducible refine gate_store (t := 22) (p := 62) rfl ?_); refine store_event (t := 22) (p := 62) (v := ?vo_w51) (w1 := (w48.setCell ⟨gb387, 9, none⟩ (.slice Ao49 y394.length co49))) ?hg ?ho ?hn ?hr ?_; (case ho => rfl); (case hg => rfl); (case hn => rfl); (case hr => first | (go_simp; done) | (go_simp; rfl)); intro w51 hw; replace HO383 := rfE hw HO383 BK387; replace HO396 := rfE hw HO396 BK387; replace BK373 := bfE hw BK373 NB373_387; replace BK386 := bfE hw BK386 NB386_387; replace BK387 : Aside0 (w51.heap[gb387]? = some (.cells #[.bool t374, .bool true, .bool t376, .int .i64 t377, .int .u16 t378, .int .u32 t379, .int .u32 t380, .slice Ao14 t381.length co14, .int .u16 (IntKind.u16.wrap (t389)), .slice Ao49 y394.length co49, .slice none 0 0, .int .i64 0] 45 (0, 0))) := ⟨by rw [hw]; exact blk_put BK387.out 9 _ rfl⟩; replace HB := bsE hw HB GE387; clear hw))
        go_meet
        case rel => exact ⟨_, (wrap64 ((ji36) + (wrap64 (4 * (wrap64 (t388)))))), (false), (false), (false), (0), (0), (0), (0), (0), (0), (IntKind.u16.wrap (t389)), (y394), (.slice Ao49 y394.length co49), (by first | rfl | (simp; done) | (simp only [← hji36] <;> (first | rfl | simp)) | (simp [*]; done)), H', ⟨by first | omega | exact Nat.le_refl _⟩, ⟨by (with_reducible repeat (first | apply Kd.R_alloc | apply Kd.R_drewN | apply Kd.R_drew)); exact HO383.out⟩, ⟨by (with_reducible repeat (first | apply Kd.R_alloc | apply Kd.R_drewN | apply Kd.R_drew)); exact HO383.out⟩, ⟨by (with_reducible repeat (first | apply Kd.R_alloc | apply Kd.R_drewN | apply Kd.R_drew)); exact HO396.out⟩, ⟨by (with_reducible repeat (first | refine blk_drewN ?_ _ | refine blk_drew ?_ | refine blk_alloc ?_ _)); exact BK373.out⟩, ⟨by (with_reducible repeat (first | refine blk_drewN ?_ _ | refine blk_drew ?_ | refine blk_alloc ?_ _)); exact BK386.out⟩, ⟨by (with_reducible repeat (first | refine blk_drewN ?_ _ | refine blk_drew ?_ | refine blk_alloc ?_ _)); exact BK387.out⟩, ⟨by repeat (first | (with_reducible first | exact HB.out | apply below_alloc | apply pw_below_drewN | apply below_drew1 | refine below_set ?_ GE373.out | refine below_set ?_ GE386.out | refine below_set ?_ GE387.out) | exact HB.out)⟩⟩
       rw [if_neg c40] at H
       exact absurd H (by simp)
      rw [if_neg c39] at H
      exact absurd H (by simp)
     rw [if_neg c38] at H
     exact absurd H (by simp)
    rw [if_neg c37] at H
    exact absurd H (by simp)
   replace c23 := Bool.eq_false_iff.mpr c23
   subst c23
   have H1 : (crossbarref06_Read.j0 k l0 t384 t374 false t376 t377 t378 t379 t380 t381 t374 false t376 t377 t378 t379 t380 t381 0 ([] : List Int) 0) = some (r1, r2, r3, r4, r5, r6, r7, r8, r9, r10, r11, r12, r13) := by rw [if_neg (show ¬ (false = true) by decide)] at H; exact H
   clear H
   have H := H1
   clear H1
   have H' := Aside0.mk H
   clear H
   go_wp2
   go_meet
   case rel => exact ⟨_, (t384), (false), (false), (false), (0), (0), (0), (0), (0), (0), (0), (([] : List Int)), (.slice none 0 0), (by first | rfl | (simp; done) | (simp [*]; done)), H', ⟨by first | omega | exact Nat.le_refl _⟩, ⟨by (with_reducible repeat (first | apply Kd.R_alloc | apply Kd.R_drewN | apply Kd.R_drew)); exact HO383.out⟩, ⟨by (with_reducible repeat (first | apply Kd.R_alloc | apply Kd.R_drewN | apply Kd.R_drew)); exact HO383.out⟩, ⟨by first | exact Kd.R_nil _ _ _ _ _ | exact Kd.N_nil _ _ _ _ _ | exact Kd.V_nil _ _ _ _ _ | exact Kd.Q_nil _ _ _ _ _ | exact Kd.S_nil _ _ _ _ _⟩, ⟨by (with_reducible repeat (first | refine blk_drewN ?_ _ | refine blk_drew ?_ | refine blk_alloc ?_ _)); exact BK373.out⟩, ⟨by (with_reducible repeat (first | refine blk_drewN ?_ _ | refine blk_drew ?_ | refine blk_alloc ?_ _)); exact BK386.out⟩, ⟨by (with_reducible repeat (first | refine blk_drewN ?_ _ | refine blk_drew ?_ | refine blk_alloc ?_ _)); exact BK387.out⟩, ⟨by repeat (first | (with_reducible first | exact HB.out | apply below_alloc | apply pw_below_drewN | apply below_drew1 | refine below_set ?_ GE373.out | refine below_set ?_ GE386.out | refine below_set ?_ GE387.out) | exact HB.out)⟩⟩
  case rest =>
   clear HC8
   try clear c1
   try clear c2
   try clear c2b0
   try clear c2b1
   try clear p2
   try clear c3
   try clear c4
   try clear p6
   try clear c7
   try clear c7b0
   try clear c7b1
   try clear c12
   try clear c18
   try clear c19
   try clear c23
   try clear c24
   try clear c24b0
   try clear c25
   try clear c26
   try clear c30
   try clear c30b0
   try clear c31
   try clear c32
   try clear c37
   try clear c37b0
   try clear c37b1
   try clear c38
   try clear c38b0
   try clear c38b1
   try clear c39
   try clear c39b0
   try clear c39b1
   try clear c40
   try clear c41
   try clear c42
   try clear c43
   try clear Z13_0 Z13_1 Z13_2 Z13_3 Z13_4 Z13_5 Z13_6 Z13_7
   try clear Z16_0 Z16_1 Z16_2 Z16_3 Z16_4 Z16_5 Z16_6 Z16_7
   try clear Z20_0 Z20_1 Z20_10 Z20_11 Z20_2 Z20_3 Z20_4 Z20_5 Z20_6 Z20_7 Z20_8 Z20_9
   try clear Z22_0 Z22_1 Z22_2 Z22_3 Z22_4 Z22_5 Z22_6 Z22_7
   try clear Z27_0 Z27_1 Z27_10 Z27_11 Z27_2 Z27_3 Z27_4 Z27_5 Z27_6 Z27_7 Z27_8 Z27_9
   try clear Z33_0 Z33_1 Z33_10 Z33_11 Z33_2 Z33_3 Z33_4 Z33_5 Z33_6 Z33_7 Z33_8 Z33_9
   try clear Z43_0 Z43_1 Z43_10 Z43_11 Z43_2 Z43_3 Z43_4 Z43_5 Z43_6 Z43_7 Z43_8 Z43_9
   try clear Z4_0 Z4_1 Z4_10 Z4_11 Z4_2 Z4_3 Z4_4 Z4_5 Z4_6 Z4_7 Z4_8 Z4_9
   try clear Z50_0 Z50_1 Z50_10 Z50_11 Z50_2 Z50_3 Z50_4 Z50_5 Z50_6 Z50_7 Z50_8 Z50_9
   try clear Y13_0 Y13_1 Y13_2 Y13_3 Y13_4 Y13_5 Y13_6 Y13_7
   try clear Y16_0 Y16_1 Y16_2 Y16_3 Y16_4 Y16_5 Y16_6 Y16_7
   try clear Y20_0 Y20_1 Y20_10 Y20_11 Y20_2 Y20_3 Y20_4 Y20_5 Y20_6 Y20_7 Y20_8 Y20_9
   try clear Y22_0 Y22_1 Y22_2 Y22_3 Y22_4 Y22_5 Y22_6 Y22_7
   try clear Y27_0 Y27_1 Y27_10 Y27_11 Y27_2 Y27_3 Y27_4 Y27_5 Y27_6 Y27_7 Y27_8 Y27_9
   try clear Y33_0 Y33_1 Y33_10 Y33_11 Y33_2 Y33_3 Y33_4 Y33_5 Y33_6 Y33_7 Y33_8 Y33_9
   try clear Y43_0 Y43_1 Y43_10 Y43_11 Y43_2 Y43_3 Y43_4 Y43_5 Y43_6 Y43_7 Y43_8 Y43_9
   try clear Y4_0 Y4_1 Y4_10 Y4_11 Y4_2 Y4_3 Y4_4 Y4_5 Y4_6 Y4_7 Y4_8 Y4_9
   try clear Y50_0 Y50_1 Y50_10 Y50_11 Y50_2 Y50_3 Y50_4 Y50_5 Y50_6 Y50_7 Y50_8 Y50_9
   obtain ⟨kq, x5_7, x374000_7, x374001_7, x374002_7, x374003_7, x374004_7, x374005_7, x374006_7, x374008_7, x374011_7, x388008_7, x388009_7, u388009, rfl, HA, HJ7, HO_387007, HO_388007, HO_388009, BK373, BK386, BK387, HB⟩ := hcut
   cases kq with
   | zero => exact absurd HA.out (by simp [crossbarref06_Read.j0])
   | succ kj7 =>
    have H := HA.out
    clear HA
    simp only [crossbarref06_Read.j0] at H
    by_cases c52 : t374 = true
    ·subst c52
     have H1 : (if 0 ≤ x5_7 then (if x5_7 ≤ (l0.length : Int) then ((crossbarref03_Trail.f (l0.drop (x5_7 : Int).toNat)).bind fun t398 => (if t398 = 0 then (some (false, false, false, 0, 0, 0, 0, ([] : List Int), 0, ([] : List Int), ([] : List Int), 0, 5)) else ((some (([] : List Int) : List Int)).bind fun y399 => (if x5_7 ≤ (wrap64 ((l0.length : Int) - t398)) then (if (wrap64 ((l0.length : Int) - t398)) ≤ (l0.length : Int) then (if y399.length + ((l0.take ((wrap64 ((l0.length : Int) - t398)) : Int).toNat).drop (x5_7 : Int).toNat).length < 140737488355328 then (some (true, t375, t376, t377, t378, t379, t380, t381, x388008_7, x388009_7, (y399 ++ ((l0.take ((wrap64 ((l0.length : Int) - t398)) : Int).toNat).drop (x5_7 : Int).toNat)), t398, 0)) else (none)) else (none)) else (none))))) else (none)) else (none)) = some (r1, r2, r3, r4, r5, r6, r7, r8, r9, r10, r11, r12, r13) := by rw [if_pos rfl] at H; exact H
     clear H
     have H := H1
     clear H1
     by_cases c53 : 0 ≤ x5_7
     ·rw [if_pos c53] at H
      have c53b0 := eq_true c53
      have c53b1 : decide (0 ≤ x5_7) = true := decide_eq_true c53
      clear c53
      by_cases c54 : x5_7 ≤ (l0.length : Int)
      ·rw [if_pos c54] at H
       have c54b0 := eq_true c54
       have c54b1 : decide (x5_7 ≤ (l0.length : Int)) = true := decide_eq_true c54
       clear c54
       replace H := Option.bind_eq_some_iff.mp H
       obtain ⟨t398, A550, H⟩ := H
       replace H : (if t398 = 0 then (some (false, false, false, 0, 0, 0, 0, ([] : List Int), 0, ([] : List Int), ([] : List Int), 0, 5)) else ((some (([] : List Int) : List Int)).bind fun y399 => (if x5_7 ≤ (wrap64 ((l0.length : Int) - t398)) then (if (wrap64 ((l0.length : Int) - t398)) ≤ (l0.length : Int) then (if y399.length + ((l0.take ((wrap64 ((l0.length : Int) - t398)) : Int).toNat).drop (x5_7 : Int).toNat).length < 140737488355328 then (some (true, t375, t376, t377, t378, t379, t380, t381, x388008_7, x388009_7, (y399 ++ ((l0.take ((wrap64 ((l0.length : Int) - t398)) : Int).toNat).drop (x5_7 : Int).toNat)), t398, 0)) else (none)) else (none)) else (none)))) = some (r1, r2, r3, r4, r5, r6, r7, r8, r9, r10, r11, r12, r13) := H
       have A55 := Aside0.mk A550
       clear A550
       by_cases c56 : t398 = 0
       ·rw [if_pos c56] at H
        have c56b0 : (t398 == 0) = true := beq_iff_eq.mpr c56
        have c56b1 : (t398 != 0) = false := bne_eq_false_iff_eq.mpr c56
        clear c56
        simp only [Option.some.injEq, Prod.mk.injEq] at H
        obtain ⟨rfl, rfl, rfl, rfl, rfl, rfl, rfl, rfl, rfl, rfl, rfl, rfl, rfl⟩ := H
        have hnb57 := NB386_373.out
        have hnc57 := NB373_386.out
        have hnb58 := NB386_387.out
        have hnc58 := NB387_386.out
        obtain ⟨Z59_0, Z59_1, Z59_2, Z59_3, Z59_4, Z59_5, Z59_6, Z59_7, Y59_0, Y59_1, Y59_2, Y59_3, Y59_4, Y59_5, Y59_6, Y59_7⟩ := bc8 BK386.out
        obtain ⟨i060, hi060, _, hsz60, _⟩ := info_parts info5
        obtain ⟨A60, hcut60, hA60, hC60⟩ := print_drop_of (P := Try.prog) (Value.int .u8) 0 22 5 .i64 Try.underlying22 hi060 hsz60 A0 c0 l0 x5_7 (oT (by first | (with_reducible assumption) | assumption)) (oT (by first | (with_reducible assumption) | assumption)) HC0.out
        have HR397 := Aside0.mk (Kd.C_of_reads (h1 := fun _ => rfl) (hA60 _ (Kd.reads_of_C HR0.out)))
        have HC397 := Aside0.mk hC60
        clear hA60 hC60 hi060 hsz60
        go_wp2_with (first | ((with_reducible refine gate_callee (f := 44) rfl ?_); refine goesL_ (some 72) rfl rfl Try.func44 (by kernel_rfl) rfl #[.slice A60 (l0.drop (x5_7 : Int).toNat).length (c0 - x5_7.toNat)] rfl (by (try simp only [List.map_toArray, List.map_cons, List.map_nil]); first | done | (rw [show (l0.drop (x5_7 : Int).toNat).length = (l0.length - x5_7.toNat) from List.length_drop] <;> rfl) | rfl | (simp only [List.length_drop, List.length_take]; rfl)) ?_; (with_reducible refine (crossbarref03_Trail.calls _ _ (l0.drop (x5_7 : Int).toNat) t398 _ ?side1 ?side2 A55.out).mono ?_); (case side1 => exact cbE HR397 HB); (case side2 => exact HC397.out); rintro e w' ⟨rfl, ⟨nd, rfl⟩⟩; refine ⟨_, rfl, ?_⟩; (try (rw [drewN_self wc]; generalize hq_ : World.drewN wc _ = wc; replace HO_387007 : Aside0 (Kd.R (Kd.int .u32) 40 wc w.heap.size (fun _ => True) (.slice Ao14 t381.length co14) t381) := ⟨by rw [← hq_]; exact (pR HO_387007)⟩; replace HO_388007 : Aside0 (Kd.R (Kd.int .u32) 40 wc w.heap.size (fun _ => True) (.slice Ao14 t381.length co14) t381) := ⟨by rw [← hq_]; exact (pR HO_388007)⟩; replace HO_388009 : Aside0 (Kd.R (Kd.int .u8) 5 wc w.heap.size (fun _ => True) u388009 x388009_7) := ⟨by rw [← hq_]; exact (pR HO_388009)⟩; replace BK373 : Aside0 (wc.heap[gb373]? = some (.cells #[.bool x374000_7, .bool x374001_7, .bool x374002_7, .int .i64 x374003_7, .int .u16 x374004_7, .int .u32 x374005_7, .int .u32 x374006_7, .slice none 0 0, .int .u16 x374008_7, .slice none 0 0, .slice none 0 0, .int .i64 x374011_7] 45 (0, 0))) := ⟨by rw [← hq_]; exact (pk BK373)⟩; replace BK386 : Aside0 (wc.heap[gb386]? = some (.cells #[.bool true, .bool t375, .bool t376, .int .i64 t377, .int .u16 t378, .int .u32 t379, .int .u32 t380, .slice Ao14 t381.length co14] 43 (0, 0))) := ⟨by rw [← hq_]; exact (pk BK386)⟩; replace BK387 : Aside0 (wc.heap[gb387]? = some (.cells #[.bool true, .bool t375, .bool t376, .int .i64 t377, .int .u16 t378, .int .u32 t379, .int .u32 t380, .slice Ao14 t381.length co14, .int .u16 x388008_7, u388009, .slice none 0 0, .int .i64 0] 45 (0, 0))) := ⟨by rw [← hq_]; exact (pk BK387)⟩; replace HB : Aside0 (Below w.heap.size w wc) := ⟨by rw [← hq_]; exact (pB HB)⟩; clear hq_)); have hnb61 := NB387_373.out; have hnc61 := NB373_387.out; obtain ⟨Z62_0, Z62_1, Z62_2, Z62_3, Z62_4, Z62_5, Z62_6, Z62_7, Z62_8, Z62_9, Z62_10, Z62_11, Y62_0, Y62_1, Y62_2, Y62_3, Y62_4, Y62_5, Y62_6, Y62_7, Y62_8, Y62_9, Y62_10, Y62_11⟩ := bc12 BK387.out) | ((with_reducible refine gate_store (t := 3) (p := 73) rfl ?_); refine store_event (t := 3) (p := 73) (v := ?vo_w63) (w1 := (wc.setCell ⟨gb387, 11, none⟩ (.int .i64 t398))) ?hg ?ho ?hn ?hr ?_; (case ho => rfl); (case hg => rfl); (case hn => rfl); (case hr => first | (go_simp; done) | (go_simp; rfl)); intro w63 hw; replace HO_387007 := rfE hw HO_387007 BK387; replace HO_388007 := rfE hw HO_388007 BK387; replace HO_388009 := rfE hw HO_388009 BK387; replace BK373 := bfE hw BK373 NB373_387; replace BK386 := bfE hw BK386 NB386_387; replace BK387 : Aside0 (w63.heap[gb387]? = some (.cells #[.bool true, .bool t375, .bool t376, .int .i64 t377, .int .u16 t378, .int .u32 t379, .int .u32 t380, .slice Ao14 t381.length co14, .int .u16 x388008_7, u388009, .slice none 0 0, .int .i64 t398] 45 (0, 0))) := ⟨by rw [hw]; exact blk_put BK387.out 11 _ rfl⟩; replace HB := bsE hw HB GE387; clear hw; obtain ⟨Z64_0, Z64_1, Z64_2, Z64_3, Z64_4, Z64_5, Z64_6, Z64_7, Z64_8, Z64_9, Z64_10, Z64_11, Y64_0, Y64_1, Y64_2, Y64_3, Y64_4, Y64_5, Y64_6, Y64_7, Y64_8, Y64_9, Y64_10, Y64_11⟩ := bc12 BK387.out; obtain ⟨Z65_0, Z65_1, Z65_2, Z65_3, Z65_4, Z65_5, Z65_6, Z65_7, Z65_8, Z65_9, Z65_10, Z65_11, Y65_0, Y65_1, Y65_2, Y65_3, Y65_4, Y65_5, Y65_6, Y65_7, Y65_8, Y65_9, Y65_10, Y65_11⟩ := bc12 BK373.out) | ((with_reducible refine gate_store (t := 45) (p := 2) rfl ?_); refine store_event (t := 45) (p := 2) (v := ?vo_w66) (w1 := ((((((((((((w63.setCell ⟨gb373, 0, none⟩ (.bool false)).setCell ⟨gb373, 1, none⟩ (.bool false)).setCell ⟨gb373, 2, none⟩ (.bool false)).setCell ⟨gb373, 3, none⟩ (.int .i64 0)).setCell ⟨gb373, 4, none⟩ (.int .u16 0)).setCell ⟨gb373, 5, none⟩ (.int .u32 0)).setCell ⟨gb373, 6, none⟩ (.int .u32 0)).setCell ⟨gb373, 7, none⟩ (.slice none 0 0)).setCell ⟨gb373, 8, none⟩ (.int .u16 0)).setCell ⟨gb373, 9, none⟩ (.slice none 0 0)).setCell ⟨gb373, 10, none⟩ (.slice none 0 0)).setCell ⟨gb373, 11, none⟩ (.int .i64 0))) ?hg ?ho ?hn ?hr ?_; (case ho => rfl); (case hg => rfl); (case hn => rfl); (case hr => first | (go_simp; done) | (go_simp; rfl)); intro w66 hw; replace HO_387007 := rfE hw HO_387007 BK373; replace HO_388007 := rfE hw HO_388007 BK373; replace HO_388009 := rfE hw HO_388009 BK373; replace BK373 : Aside0 (w66.heap[gb373]? = some (.cells #[.bool false, .bool false, .bool false, .int .i64 0, .int .u16 0, .int .u32 0, .int .u32 0, .slice none 0 0, .int .u16 0, .slice none 0 0, .slice none 0 0, .int .i64 0] 45 (0, 0))) := ⟨by rw [hw]; apply puts12; exact BK373.out⟩; replace BK386 := bfE hw BK386 NB386_373; replace BK387 := bfE hw BK387 NB387_373; replace HB := bsE hw HB GE373; clear hw))
        refine bodyPost_ret (results_ct rfl _ _ gb373 45 #[.bool false, .bool false, .bool false, .int .i64 0, .int .u16 0, .int .u32 0, .int .u32 0, .slice none 0 0, .int .u16 0, .slice none 0 0, .slice none 0 0, .int .i64 0] (0, 0) _ rfl (pk BK373) Try.underlying45 rfl (by kernel_rfl)) rfl ?_
        exact ⟨_, _, _, by first | rfl | (simp [errW_none, errW_some] <;> rfl) | (simp [*, errW_none, errW_some] <;> rfl), by first | exact Kd.R_nil _ _ _ _ _ | exact Kd.N_nil _ _ _ _ _ | exact Kd.V_nil _ _ _ _ _ | exact Kd.Q_nil _ _ _ _ _ | exact Kd.S_nil _ _ _ _ _, by first | exact Kd.R_nil _ _ _ _ _ | exact Kd.N_nil _ _ _ _ _ | exact Kd.V_nil _ _ _ _ _ | exact Kd.Q_nil _ _ _ _ _ | exact Kd.S_nil _ _ _ _ _, by first | exact Kd.R_nil _ _ _ _ _ | exact Kd.N_nil _ _ _ _ _ | exact Kd.V_nil _ _ _ _ _ | exact Kd.Q_nil _ _ _ _ _ | exact Kd.S_nil _ _ _ _ _, by repeat (first | (with_reducible first | exact HB.out | apply below_alloc | apply pw_below_drewN | apply below_drew1 | refine below_set ?_ GE373.out | refine below_set ?_ GE386.out | refine below_set ?_ GE387.out) | exact HB.out)⟩
       rw [if_neg c56] at H
       have c56b0 : (t398 == 0) = false := beq_eq_false_iff_ne.mpr c56
       have c56b1 : (t398 != 0) = true := bne_iff_ne.mpr c56
       obtain ⟨y399, hy399⟩ : ∃ y_ : List Int, y_ = (([] : List Int)) := ⟨_, rfl⟩
       replace H : (if x5_7 ≤ (wrap64 ((l0.length : Int) - t398)) then (if (wrap64 ((l0.length : Int) - t398)) ≤ (l0.length : Int) then (if y399.length + ((l0.take ((wrap64 ((l0.length : Int) - t398)) : Int).toNat).drop (x5_7 : Int).toNat).length < 140737488355328 then (some (true, t375, t376, t377, t378, t379, t380, t381, x388008_7, x388009_7, (y399 ++ ((l0.take ((wrap64 ((l0.length : Int) - t398)) : Int).toNat).drop (x5_7 : Int).toNat)), t398, 0)) else (none)) else (none)) else (none)) = some (r1, r2, r3, r4, r5, r6, r7, r8, r9, r10, r11, r12, r13) := by first | (rw [hy399]; with_reducible exact H) | (have H2_ := (Option.bind_some _ _).symm.trans H; rw [hy399]; with_reducible exact H2_) | (have H2_ := (Option.bind_some _ _).symm.trans H; with_reducible exact H2_) | with_reducible exact H | (rw [hy399]; exact H) | exact H
       have Ny399 := Aside0.mk hy399
       clear hy399
       have c67b0 := eq_true (of_decide_eq_true (by first | (with_reducible assumption) | assumption) : 0 ≤ x5_7)
       by_cases c68 : x5_7 ≤ (wrap64 ((l0.length : Int) - t398))
       ·rw [if_pos c68] at H
        have c68b0 := eq_true c68
        have c68b1 : decide (x5_7 ≤ (wrap64 ((l0.length : Int) - t398))) = true := decide_eq_true c68
        clear c68
        by_cases c69 : (wrap64 ((l0.length : Int) - t398)) ≤ (l0.length : Int)
        ·rw [if_pos c69] at H
         have c69b0 := eq_true c69
         have c69b1 : decide ((wrap64 ((l0.length : Int) - t398)) ≤ (l0.length : Int)) = true := decide_eq_true c69
         clear c69
         by_cases c70 : y399.length + ((l0.take ((wrap64 ((l0.length : Int) - t398)) : Int).toNat).drop (x5_7 : Int).toNat).length < 140737488355328
         ·rw [if_pos c70] at H
          have LMc70 := Aside0.mk c70
          clear c70
          obtain ⟨y403, hy403⟩ : ∃ y_ : List Int, y_ = (y399 ++ ((l0.take ((wrap64 ((l0.length : Int) - t398)) : Int).toNat).drop (x5_7 : Int).toNat)) := ⟨_, rfl⟩
          replace H : (some (true, t375, t376, t377, t378, t379, t380, t381, x388008_7, x388009_7, y403, t398, 0)) = some (r1, r2, r3, r4, r5, r6, r7, r8, r9, r10, r11, r12, r13) := by first | (rw [hy403]; with_reducible exact H) | (have H2_ := (Option.bind_some _ _).symm.trans H; rw [hy403]; with_reducible exact H2_) | (have H2_ := (Option.bind_some _ _).symm.trans H; with_reducible exact H2_) | with_reducible exact H | (rw [hy403]; exact H) | exact H
          have Ny403 := Aside0.mk hy403
          clear hy403
          simp only [Option.some.injEq, Prod.mk.injEq] at H
          obtain ⟨rfl, rfl, rfl, rfl, rfl, rfl, rfl, rfl, rfl, rfl, rfl, rfl, rfl⟩ := H
          have hnb71 := NB386_373.out
          have hnc71 := NB373_386.out
          have hnb72 := NB386_387.out
          have hnc72 := NB387_386.out
          obtain ⟨Z73_0, Z73_1, Z73_2, Z73_3, Z73_4, Z73_5, Z73_6, Z73_7, Y73_0, Y73_1, Y73_2, Y73_3, Y73_4, Y73_5, Y73_6, Y73_7⟩ := bc8 BK386.out
          obtain ⟨i074, hi074, _, hsz74, _⟩ := info_parts info5
          obtain ⟨A74, hcut74, hA74, hC74⟩ := print_drop_of (P := Try.prog) (Value.int .u8) 0 22 5 .i64 Try.underlying22 hi074 hsz74 A0 c0 l0 x5_7 (oT (by first | (with_reducible assumption) | assumption)) (oT (by first | (with_reducible assumption) | assumption)) HC0.out
          have HR397 := Aside0.mk (Kd.C_of_reads (h1 := fun _ => rfl) (hA74 _ (Kd.reads_of_C HR0.out)))
          have HC397 := Aside0.mk hC74
          clear hA74 hC74 hi074 hsz74
          go_wp2_with (first | ((with_reducible refine gate_callee (f := 44) rfl ?_); refine goesL_ (some 72) rfl rfl Try.func44 (by kernel_rfl) rfl #[.slice A74 (l0.drop (x5_7 : Int).toNat).length (c0 - x5_7.toNat)] rfl (by (try simp only [List.map_toArray, List.map_cons, List.map_nil]); first | done | (rw [show (l0.drop (x5_7 : Int).toNat).length = (l0.length - x5_7.toNat) from List.length_drop] <;> rfl) | rfl | (simp only [List.length_drop, List.length_take]; rfl)) ?_; (with_reducible refine (crossbarref03_Trail.calls _ _ (l0.drop (x5_7 : Int).toNat) t398 _ ?side1 ?side2 A55.out).mono ?_); (case side1 => exact cbE HR397 HB); (case side2 => exact HC397.out); rintro e w' ⟨rfl, ⟨nd, rfl⟩⟩; refine ⟨_, rfl, ?_⟩; (try (rw [drewN_self wc]; generalize hq_ : World.drewN wc _ = wc; replace HO_387007 : Aside0 (Kd.R (Kd.int .u32) 40 wc w.heap.size (fun _ => True) (.slice Ao14 t381.length co14) t381) := ⟨by rw [← hq_]; exact (pR HO_387007)⟩; replace HO_388007 : Aside0 (Kd.R (Kd.int .u32) 40 wc w.heap.size (fun _ => True) (.slice Ao14 t381.length co14) t381) := ⟨by rw [← hq_]; exact (pR HO_388007)⟩; replace HO_388009 : Aside0 (Kd.R (Kd.int .u8) 5 wc w.heap.size (fun _ => True) u388009 x388009_7) := ⟨by rw [← hq_]; exact (pR HO_388009)⟩; replace BK373 : Aside0 (wc.heap[gb373]? = some (.cells #[.bool x374000_7, .bool x374001_7, .bool x374002_7, .int .i64 x374003_7, .int .u16 x374004_7, .int .u32 x374005_7, .int .u32 x374006_7, .slice none 0 0, .int .u16 x374008_7, .slice none 0 0, .slice none 0 0, .int .i64 x374011_7] 45 (0, 0))) := ⟨by rw [← hq_]; exact (pk BK373)⟩; replace BK386 : Aside0 (wc.heap[gb386]? = some (.cells #[.bool true, .bool t375, .bool t376, .int .i64 t377, .int .u16 t378, .int .u32 t379, .int .u32 t380, .slice Ao14 t381.length co14] 43 (0, 0))) := ⟨by rw [← hq_]; exact (pk BK386)⟩; replace BK387 : Aside0 (wc.heap[gb387]? = some (.cells #[.bool true, .bool t375, .bool t376, .int .i64 t377, .int .u16 t378, .int .u32 t379, .int .u32 t380, .slice Ao14 t381.length co14, .int .u16 x388008_7, u388009, .slice none 0 0, .int .i64 0] 45 (0, 0))) := ⟨by rw [← hq_]; exact (pk BK387)⟩; replace HB : Aside0 (Below w.heap.size w wc) := ⟨by rw [← hq_]; exact (pB HB)⟩; clear hq_)); have hnb75 := NB387_373.out; have hnc75 := NB373_387.out; obtain ⟨Z76_0, Z76_1, Z76_2, Z76_3, Z76_4, Z76_5, Z76_6, Z76_7, Z76_8, Z76_9, Z76_10, Z76_11, Y76_0, Y76_1, Y76_2, Y76_3, Y76_4, Y76_5, Y76_6, Y76_7, Y76_8, Y76_9, Y76_10, Y76_11⟩ := bc12 BK387.out) | ((with_reducible refine gate_store (t := 3) (p := 73) rfl ?_); refine store_event (t := 3) (p := 73) (v := ?vo_w77) (w1 := (wc.setCell ⟨gb387, 11, none⟩ (.int .i64 t398))) ?hg ?ho ?hn ?hr ?_; (case ho => rfl); (case hg => rfl); (case hn => rfl); (case hr => first | (go_simp; done) | (go_simp; rfl)); intro w77 hw; replace HO_387007 := rfE hw HO_387007 BK387; replace HO_388007 := rfE hw HO_388007 BK387; replace HO_388009 := rfE hw HO_388009 BK387; replace BK373 := bfE hw BK373 NB373_387; replace BK386 := bfE hw BK386 NB386_387; replace BK387 : Aside0 (w77.heap[gb387]? = some (.cells #[.bool true, .bool t375, .bool t376, .int .i64 t377, .int .u16 t378, .int .u32 t379, .int .u32 t380, .slice Ao14 t381.length co14, .int .u16 x388008_7, u388009, .slice none 0 0, .int .i64 t398] 45 (0, 0))) := ⟨by rw [hw]; exact blk_put BK387.out 11 _ rfl⟩; replace HB := bsE hw HB GE387; clear hw; obtain ⟨Z78_0, Z78_1, Z78_2, Z78_3, Z78_4, Z78_5, Z78_6, Z78_7, Z78_8, Z78_9, Z78_10, Z78_11, Y78_0, Y78_1, Y78_2, Y78_3, Y78_4, Y78_5, Y78_6, Y78_7, Y78_8, Y78_9, Y78_10, Y78_11⟩ := bc12 BK387.out) | ((with_reducible refine gate_dst (N := 78) rfl ?_); refine Kd.R_lit (Kd.int .u8) _ 5 ?hg (N := 78) ?hd (xs := ([] : List Int)) (inner := []) (ok := fun _ => True) (okp := fun _ => True) ?hr ?hp (fun _ hk => hk) trivial (Below.refl _ _) (Nat.le_refl _) (by simp) ?_; (case hd => rfl); (case hg => rfl); (case hr => first | (go_simp; done) | (go_simp; rfl)); (case hp => exact (Reps.none _ _)); intro v400 w79 ho80 hb hg_ hnew_; clear hg_ hnew_; (first | rw [← Ny399.out] at ho80 | (simp only [Int.reduceToNat] at ho80; rw [← Ny399.out] at ho80)); replace HO_387007 := rbE HO_387007 hb; replace HO_388007 := rbE HO_388007 hb; have n2_ := Aside0.mk (Kd.R_elder' (pR HO_388009) (Kd.R_base ho80) hb); have HO401 := Aside0.mk (Kd.R_lower (Kd.R_new' ho80 (Kd.R_lt (pR HO_388009))) (below_size (pB HB))); replace BK373 := bbE BK373 hb; replace BK386 := bbE BK386 hb; replace BK387 := bbE BK387 hb; replace HB := bstE HB hb; clear HO_388009; have HO_388009 := n2_; clear n2_; clear hb ho80; obtain ⟨Z81_0, Z81_1, Z81_2, Z81_3, Z81_4, Z81_5, Z81_6, Z81_7, Z81_8, Z81_9, Z81_10, Z81_11, Y81_0, Y81_1, Y81_2, Y81_3, Y81_4, Y81_5, Y81_6, Y81_7, Y81_8, Y81_9, Y81_10, Y81_11⟩ := bc12 BK387.out; obtain ⟨i082, hi082, _, hsz82, _⟩ := info_parts info5; obtain ⟨A82, hcut82, hA82, hC82⟩ := print_mid_of (P := Try.prog) (Value.int .u8) 0 22 5 .i64 .i64 Try.underlying22 hi082 hsz82 A0 c0 l0 x5_7 (wrap64 ((l0.length : Int) - t398)) (oT (by first | (with_reducible assumption) | assumption)) (by first | omega | exact of_decide_eq_true (by first | (with_reducible assumption) | assumption)) (oT (by first | (with_reducible assumption) | assumption)) HC0.out; have HR402 := Aside0.mk (Kd.C_of_reads (h1 := fun _ => rfl) (hA82 _ (Kd.reads_of_C HR0.out))); have HC402 := Aside0.mk hC82; clear hA82 hC82 hi082 hsz82) | ((with_reducible refine gate_builtin (b := .append) (xs := #[.tmp 78, .tmp 86]) rfl ?_); at_builtin; refine Kd.R_append_rows (Kd.int .u8) (w0 := w) w.heap.size rfl (.tmp 78) (.tmp 86) 22 5 (.int .u8 0) 1 rfl Try.underlying22 info5 rfl (by decide) (by omega) v400 y399 ((l0.take ((wrap64 ((l0.length : Int) - t398)) : Int).toNat).drop (x5_7 : Int).toNat) _ _ _ (fun k_ => some k_ ≠ (u388009 : Value).ownBlock) (fun _ => False) rfl rfl ?aO ?aR (fun _ _ h => h) (fun _ h => h.elim) ?aF ?aB ?aS ?aL ?_; (case aR => first | (rw [← show ((l0.take ((wrap64 ((l0.length : Int) - t398)) : Int).toNat).drop (x5_7 : Int).toNat).length = ((wrap64 ((l0.length : Int) - t398)).toNat - x5_7.toNat) from (by rw [List.length_drop, List.length_take]; have h_ : ((wrap64 ((l0.length : Int) - t398)) : Int) ≤ (l0.length : Int) := of_decide_eq_true (by first | (with_reducible assumption) | assumption); omega)]; repeat (first | exact (Kd.C_below HR402.out HB.out) | (with_reducible refine Kd.C_alloc ?_ _) | (with_reducible refine Kd.C_drewN ?_ _) | (with_reducible refine Kd.C_drew ?_))) | (repeat (first | exact (Kd.C_below HR402.out HB.out) | (with_reducible refine Kd.C_alloc ?_ _) | (with_reducible refine Kd.C_drewN ?_ _) | (with_reducible refine Kd.C_drew ?_)))); (case aB => exact (pB HB)); (case aF => exact (fun k_ hk => Kd.fresh' (Kd.R_lt (pR HO_388009)) k_ hk)); (case aO => exact (by (with_reducible repeat (first | apply Kd.R_alloc | apply Kd.R_drewN | apply Kd.R_drew)); exact Kd.R_mono HO401.out (fun _ hk => hk.2))); (case aS => exact (below_size (pB HB))); (case aL => have := LMc70.out; have hlx_ := (show ((l0.take ((wrap64 ((l0.length : Int) - t398)) : Int).toNat).drop (x5_7 : Int).toNat).length = ((wrap64 ((l0.length : Int) - t398)).toNat - x5_7.toNat) from (by rw [List.length_drop, List.length_take]; have h_ : ((wrap64 ((l0.length : Int) - t398)) : Int) ≤ (l0.length : Int) := of_decide_eq_true (by first | (with_reducible assumption) | assumption); omega)); omega); intro v404 w83 ho hb hg hat; rw [← Ny403.out] at ho; replace HO_387007 := Aside0.mk (Kd.R_over' (pR HO_387007) (Kd.R_typed (pR HO401)) (by decide) hg); replace HO_388007 := Aside0.mk (Kd.R_over' (pR HO_388007) (Kd.R_typed (pR HO401)) (by decide) hg); replace HO_388009 := Aside0.mk (Kd.R_after (ok := (fun _ => True)) (pR HO_388009) hg hat); replace BK373 := Aside0.mk (blk_grown (g := gb373) (o := .cells #[.bool x374000_7, .bool x374001_7, .bool x374002_7, .int .i64 x374003_7, .int .u16 x374004_7, .int .u32 x374005_7, .int .u32 x374006_7, .slice none 0 0, .int .u16 x374008_7, .slice none 0 0, .slice none 0 0, .int .i64 x374011_7] 45 (0, 0)) (pk BK373) hg (Kd.R_ne HO401.out BK373.out (by decide))); replace BK386 := Aside0.mk (blk_grown (g := gb386) (o := .cells #[.bool true, .bool t375, .bool t376, .int .i64 t377, .int .u16 t378, .int .u32 t379, .int .u32 t380, .slice Ao14 t381.length co14] 43 (0, 0)) (pk BK386) hg (Kd.R_ne HO401.out BK386.out (by decide))); replace BK387 := Aside0.mk (blk_grown (g := gb387) (o := .cells #[.bool true, .bool t375, .bool t376, .int .i64 t377, .int .u16 t378, .int .u32 t379, .int .u32 t380, .slice Ao14 t381.length co14, .int .u16 x388008_7, u388009, .slice none 0 0, .int .i64 t398] 45 (0, 0)) (pk BK387) hg (Kd.R_ne HO401.out BK387.out (by decide))); replace HB := Aside0.mk (hb); have HO405 := Aside0.mk (ho); clear HO401; clear ho hb hg hat; obtain ⟨Ao84, co84, eo84⟩ := Kd.R_slice HO405.out; subst eo84; obtain ⟨Z85_0, Z85_1, Z85_2, Z85_3, Z85_4, Z85_5, Z85_6, Z85_7, Z85_8, Z85_9, Z85_10, Z85_11, Y85_0, Y85_1, Y85_2, Y85_3, Y85_4, Y85_5, Y85_6, Y85_7, Y85_8, Y85_9, Y85_10, Y85_11⟩ := bc12 BK387.out) | ((with_reducible refine gate_store (t := 22) (p := 88) rfl ?_); refine store_event (t := 22) (p := 88) (v := ?vo_w86) (w1 := (w83.setCell ⟨gb387, 10, none⟩ (.slice Ao84 y403.length co84))) ?hg ?ho ?hn ?hr ?_; (case ho => rfl); (case hg => rfl); (case hn => rfl); (case hr => first | (go_simp; done) | (go_simp; rfl)); intro w86 hw; replace HO_387007 := rfE hw HO_387007 BK387; replace HO_388007 := rfE hw HO_388007 BK387; replace HO_388009 : Aside0 (Kd.R (Kd.int .u8) 5 w86 w.heap.size (fun k_ => some k_ ≠ (.slice Ao84 y403.length co84 : Value).ownBlock) u388009 x388009_7) := ⟨Kd.R_mono (rfF hw HO_388009 BK387) (fun _ hk => hk.1.2)⟩; replace HO405 := rfE hw HO405 BK387; replace BK373 := bfE hw BK373 NB373_387; replace BK386 := bfE hw BK386 NB386_387; replace BK387 : Aside0 (w86.heap[gb387]? = some (.cells #[.bool true, .bool t375, .bool t376, .int .i64 t377, .int .u16 t378, .int .u32 t379, .int .u32 t380, .slice Ao14 t381.length co14, .int .u16 x388008_7, u388009, .slice Ao84 y403.length co84, .int .i64 t398] 45 (0, 0))) := ⟨by rw [hw]; exact blk_put BK387.out 10 _ rfl⟩; replace HB := bsE hw HB GE387; clear hw; obtain ⟨Z87_0, Z87_1, Z87_2, Z87_3, Z87_4, Z87_5, Z87_6, Z87_7, Z87_8, Z87_9, Z87_10, Z87_11, Y87_0, Y87_1, Y87_2, Y87_3, Y87_4, Y87_5, Y87_6, Y87_7, Y87_8, Y87_9, Y87_10, Y87_11⟩ := bc12 BK387.out; obtain ⟨Z88_0, Z88_1, Z88_2, Z88_3, Z88_4, Z88_5, Z88_6, Z88_7, Z88_8, Z88_9, Z88_10, Z88_11, Y88_0, Y88_1, Y88_2, Y88_3, Y88_4, Y88_5, Y88_6, Y88_7, Y88_8, Y88_9, Y88_10, Y88_11⟩ := bc12 BK373.out; obtain ⟨Ao89, co89, eo89⟩ := Kd.R_slice HO_388009.out; subst eo89) | ((with_reducible refine gate_store (t := 45) (p := 2) rfl ?_); refine store_event (t := 45) (p := 2) (v := ?vo_w90) (w1 := ((((((((((((w86.setCell ⟨gb373, 0, none⟩ (.bool true)).setCell ⟨gb373, 1, none⟩ (.bool t375)).setCell ⟨gb373, 2, none⟩ (.bool t376)).setCell ⟨gb373, 3, none⟩ (.int .i64 t377)).setCell ⟨gb373, 4, none⟩ (.int .u16 t378)).setCell ⟨gb373, 5, none⟩ (.int .u32 t379)).setCell ⟨gb373, 6, none⟩ (.int .u32 t380)).setCell ⟨gb373, 7, none⟩ (.slice Ao14 t381.length co14)).setCell ⟨gb373, 8, none⟩ (.int .u16 x388008_7)).setCell ⟨gb373, 9, none⟩ (.slice Ao89 x388009_7.length co89)).setCell ⟨gb373, 10, none⟩ (.slice Ao84 y403.length co84)).setCell ⟨gb373, 11, none⟩ (.int .i64 t398))) ?hg ?ho ?hn ?hr ?_; (case ho => rfl); (case hg => rfl); (case hn => rfl); (case hr => first | (go_simp; done) | (go_simp; rfl)); intro w90 hw; replace HO_387007 := rfE hw HO_387007 BK373; replace HO_388007 := rfE hw HO_388007 BK373; replace HO_388009 := rfE hw HO_388009 BK373; replace HO405 := rfE hw HO405 BK373; replace BK373 : Aside0 (w90.heap[gb373]? = some (.cells #[.bool true, .bool t375, .bool t376, .int .i64 t377, .int .u16 t378, .int .u32 t379, .int .u32 t380, .slice Ao14 t381.length co14, .int .u16 x388008_7, .slice Ao89 x388009_7.length co89, .slice Ao84 y403.length co84, .int .i64 t398] 45 (0, 0))) := ⟨by rw [hw]; apply puts12; exact BK373.out⟩; replace BK386 := bfE hw BK386 NB386_373; replace BK387 := bfE hw BK387 NB387_373; replace HB := bsE hw HB GE373; clear hw))
          refine bodyPost_ret (results_ct rfl _ _ gb373 45 #[.bool true, .bool t375, .bool t376, .int .i64 t377, .int .u16 t378, .int .u32 t379, .int .u32 t380, .slice Ao14 t381.length co14, .int .u16 x388008_7, .slice Ao89 x388009_7.length co89, .slice Ao84 y403.length co84, .int .i64 t398] (0, 0) _ rfl (pk BK373) Try.underlying45 rfl (by kernel_rfl)) rfl ?_
          exact ⟨_, _, _, by first | rfl | (simp [errW_none, errW_some] <;> rfl) | (simp [*, errW_none, errW_some] <;> rfl), by (with_reducible repeat (first | apply Kd.R_alloc | apply Kd.R_drewN | apply Kd.R_drew)); exact HO_388007.out, by (with_reducible repeat (first | apply Kd.R_alloc | apply Kd.R_drewN | apply Kd.R_drew)); exact HO_388009.out, by (with_reducible repeat (first | apply Kd.R_alloc | apply Kd.R_drewN | apply Kd.R_drew)); exact HO405.out, by repeat (first | (with_reducible first | exact HB.out | apply below_alloc | apply pw_below_drewN | apply below_drew1 | refine below_set ?_ GE373.out | refine below_set ?_ GE386.out | refine below_set ?_ GE387.out) | exact HB.out)⟩
         rw [if_neg c70] at H
         exact absurd H (by simp)
        rw [if_neg c69] at H
        exact absurd H (by simp)
       rw [if_neg c68] at H
       exact absurd H (by simp)
      rw [if_neg c54] at H
      exact absurd H (by simp)
     rw [if_neg c53] at H
     exact absurd H (by simp)
    replace c52 := Bool.eq_false_iff.mpr c52
    subst c52
    have H1 : ((some (([] : List Int) : List Int)).bind fun y406 => (if 0 ≤ x5_7 then (if x5_7 ≤ (wrap64 ((l0.length : Int))) then (if (wrap64 ((l0.length : Int))) ≤ (l0.length : Int) then (if y406.length + ((l0.take ((wrap64 ((l0.length : Int))) : Int).toNat).drop (x5_7 : Int).toNat).length < 140737488355328 then (some (false, t375, t376, t377, t378, t379, t380, t381, x388008_7, x388009_7, (y406 ++ ((l0.take ((wrap64 ((l0.length : Int))) : Int).toNat).drop (x5_7 : Int).toNat)), 0, 0)) else (none)) else (none)) else (none)) else (none))) = some (r1, r2, r3, r4, r5, r6, r7, r8, r9, r10, r11, r12, r13) := by rw [if_neg (show ¬ (false = true) by decide)] at H; simpa only [Int.sub_zero] using H
    clear H
    have H := H1
    clear H1
    obtain ⟨jz1, hjz1⟩ : ∃ j_ : Int, (wrap64 ((l0.length : Int))) = j_ := ⟨_, rfl⟩
    simp only [hjz1] at H
    have hjz1w : (IntKind.i64.wrap (l0.length : Int)) = jz1 := (i64_w _).trans hjz1
    obtain ⟨y406, hy406⟩ : ∃ y_ : List Int, y_ = (([] : List Int)) := ⟨_, rfl⟩
    replace H : (if 0 ≤ x5_7 then (if x5_7 ≤ jz1 then (if jz1 ≤ (l0.length : Int) then (if y406.length + ((l0.take (jz1 : Int).toNat).drop (x5_7 : Int).toNat).length < 140737488355328 then (some (false, t375, t376, t377, t378, t379, t380, t381, x388008_7, x388009_7, (y406 ++ ((l0.take (jz1 : Int).toNat).drop (x5_7 : Int).toNat)), 0, 0)) else (none)) else (none)) else (none)) else (none)) = some (r1, r2, r3, r4, r5, r6, r7, r8, r9, r10, r11, r12, r13) := by first | (rw [hy406]; with_reducible exact H) | (have H2_ := (Option.bind_some _ _).symm.trans H; rw [hy406]; with_reducible exact H2_) | (have H2_ := (Option.bind_some _ _).symm.trans H; with_reducible exact H2_) | with_reducible exact H | (rw [hy406]; exact H) | exact H
    have Ny406 := Aside0.mk hy406
    clear hy406
    by_cases c91 : 0 ≤ x5_7
    ·rw [if_pos c91] at H
     have c91b0 := eq_true c91
     have c91b1 : decide (0 ≤ x5_7) = true := decide_eq_true c91
     clear c91
     by_cases c92 : x5_7 ≤ jz1
     ·rw [if_pos c92] at H
      have c92b0 := eq_true c92
      have c92b1 : decide (x5_7 ≤ jz1) = true := decide_eq_true c92
      clear c92
      by_cases c93 : jz1 ≤ (l0.length : Int)
      ·rw [if_pos c93] at H
       have c93b0 := eq_true c93
       have c93b1 : decide (jz1 ≤ (l0.length : Int)) = true := decide_eq_true c93
       clear c93
       by_cases c94 : y406.length + ((l0.take (jz1 : Int).toNat).drop (x5_7 : Int).toNat).length < 140737488355328
       ·rw [if_pos c94] at H
        have LMc94 := Aside0.mk c94
        clear c94
        obtain ⟨y410, hy410⟩ : ∃ y_ : List Int, y_ = (y406 ++ ((l0.take (jz1 : Int).toNat).drop (x5_7 : Int).toNat)) := ⟨_, rfl⟩
        replace H : (some (false, t375, t376, t377, t378, t379, t380, t381, x388008_7, x388009_7, y410, 0, 0)) = some (r1, r2, r3, r4, r5, r6, r7, r8, r9, r10, r11, r12, r13) := by first | (rw [hy410]; with_reducible exact H) | (have H2_ := (Option.bind_some _ _).symm.trans H; rw [hy410]; with_reducible exact H2_) | (have H2_ := (Option.bind_some _ _).symm.trans H; with_reducible exact H2_) | with_reducible exact H | (rw [hy410]; exact H) | exact H
        have Ny410 := Aside0.mk hy410
        clear hy410
        simp only [Option.some.injEq, Prod.mk.injEq] at H
        obtain ⟨rfl, rfl, rfl, rfl, rfl, rfl, rfl, rfl, rfl, rfl, rfl, rfl, rfl⟩ := H
        have hnb95 := NB386_373.out
        have hnc95 := NB373_386.out
        have hnb96 := NB386_387.out
        have hnc96 := NB387_386.out
        obtain ⟨Z97_0, Z97_1, Z97_2, Z97_3, Z97_4, Z97_5, Z97_6, Z97_7, Y97_0, Y97_1, Y97_2, Y97_3, Y97_4, Y97_5, Y97_6, Y97_7⟩ := bc8 BK386.out
        go_wp2_with (first | ((with_reducible refine gate_dst (N := 78) rfl ?_); refine Kd.R_lit (Kd.int .u8) _ 5 ?hg (N := 78) ?hd (xs := ([] : List Int)) (inner := []) (ok := fun _ => True) (okp := fun _ => True) ?hr ?hp (fun _ hk => hk) trivial (Below.refl _ _) (Nat.le_refl _) (by simp) ?_; (case hd => rfl); (case hg => rfl); (case hr => first | (go_simp; done) | (go_simp; rfl)); (case hp => exact (Reps.none _ _)); intro v407 w98 ho99 hb hg_ hnew_; clear hg_ hnew_; (first | rw [← Ny406.out] at ho99 | (simp only [Int.reduceToNat] at ho99; rw [← Ny406.out] at ho99)); replace HO_387007 := rbE HO_387007 hb; replace HO_388007 := rbE HO_388007 hb; have n2_ := Aside0.mk (Kd.R_elder' (pR HO_388009) (Kd.R_base ho99) hb); have HO408 := Aside0.mk (Kd.R_lower (Kd.R_new' ho99 (Kd.R_lt (pR HO_388009))) (below_size (pB HB))); replace BK373 := bbE BK373 hb; replace BK386 := bbE BK386 hb; replace BK387 := bbE BK387 hb; replace HB := bstE HB hb; clear HO_388009; have HO_388009 := n2_; clear n2_; clear hb ho99; have hnb100 := NB387_373.out; have hnc100 := NB373_387.out; obtain ⟨Z101_0, Z101_1, Z101_2, Z101_3, Z101_4, Z101_5, Z101_6, Z101_7, Z101_8, Z101_9, Z101_10, Z101_11, Y101_0, Y101_1, Y101_2, Y101_3, Y101_4, Y101_5, Y101_6, Y101_7, Y101_8, Y101_9, Y101_10, Y101_11⟩ := bc12 BK387.out; obtain ⟨i0102, hi0102, _, hsz102, _⟩ := info_parts info5; obtain ⟨A102, hcut102, hA102, hC102⟩ := print_mid_of (P := Try.prog) (Value.int .u8) 0 22 5 .i64 .i64 Try.underlying22 hi0102 hsz102 A0 c0 l0 x5_7 jz1 (oT (by first | (with_reducible assumption) | assumption)) (by first | omega | exact of_decide_eq_true (by first | (with_reducible assumption) | assumption)) (oT (by first | (with_reducible assumption) | assumption)) HC0.out; have HR409 := Aside0.mk (Kd.C_of_reads (h1 := fun _ => rfl) (hA102 _ (Kd.reads_of_C HR0.out))); have HC409 := Aside0.mk hC102; clear hA102 hC102 hi0102 hsz102) | ((with_reducible refine gate_builtin (b := .append) (xs := #[.tmp 78, .tmp 86]) rfl ?_); at_builtin; refine Kd.R_append_rows (Kd.int .u8) (w0 := w) w.heap.size rfl (.tmp 78) (.tmp 86) 22 5 (.int .u8 0) 1 rfl Try.underlying22 info5 rfl (by decide) (by omega) v407 y406 ((l0.take (jz1 : Int).toNat).drop (x5_7 : Int).toNat) _ _ _ (fun k_ => some k_ ≠ (u388009 : Value).ownBlock) (fun _ => False) rfl rfl ?aO ?aR (fun _ _ h => h) (fun _ h => h.elim) ?aF ?aB ?aS ?aL ?_; (case aR => first | (rw [← show ((l0.take (jz1 : Int).toNat).drop (x5_7 : Int).toNat).length = (jz1.toNat - x5_7.toNat) from (by rw [List.length_drop, List.length_take]; have h_ : (jz1 : Int) ≤ (l0.length : Int) := of_decide_eq_true (by first | (with_reducible assumption) | assumption); omega)]; repeat (first | exact (Kd.C_below HR409.out HB.out) | (with_reducible refine Kd.C_alloc ?_ _) | (with_reducible refine Kd.C_drewN ?_ _) | (with_reducible refine Kd.C_drew ?_))) | (repeat (first | exact (Kd.C_below HR409.out HB.out) | (with_reducible refine Kd.C_alloc ?_ _) | (with_reducible refine Kd.C_drewN ?_ _) | (with_reducible refine Kd.C_drew ?_)))); (case aB => exact (pB HB)); (case aF => exact (fun k_ hk => Kd.fresh' (Kd.R_lt (pR HO_388009)) k_ hk)); (case aO => exact (by (with_reducible repeat (first | apply Kd.R_alloc | apply Kd.R_drewN | apply Kd.R_drew)); exact Kd.R_mono HO408.out (fun _ hk => hk.2))); (case aS => exact (below_size (pB HB))); (case aL => have := LMc94.out; have hlx_ := (show ((l0.take (jz1 : Int).toNat).drop (x5_7 : Int).toNat).length = (jz1.toNat - x5_7.toNat) from (by rw [List.length_drop, List.length_take]; have h_ : (jz1 : Int) ≤ (l0.length : Int) := of_decide_eq_true (by first | (with_reducible assumption) | assumption); omega)); omega); intro v411 w103 ho hb hg hat; rw [← Ny410.out] at ho; replace HO_387007 := Aside0.mk (Kd.R_over' (pR HO_387007) (Kd.R_typed (pR HO408)) (by decide) hg); replace HO_388007 := Aside0.mk (Kd.R_over' (pR HO_388007) (Kd.R_typed (pR HO408)) (by decide) hg); replace HO_388009 := Aside0.mk (Kd.R_after (ok := (fun _ => True)) (pR HO_388009) hg hat); replace BK373 := Aside0.mk (blk_grown (g := gb373) (o := .cells #[.bool x374000_7, .bool x374001_7, .bool x374002_7, .int .i64 x374003_7, .int .u16 x374004_7, .int .u32 x374005_7, .int .u32 x374006_7, .slice none 0 0, .int .u16 x374008_7, .slice none 0 0, .slice none 0 0, .int .i64 x374011_7] 45 (0, 0)) (pk BK373) hg (Kd.R_ne HO408.out BK373.out (by decide))); replace BK386 := Aside0.mk (blk_grown (g := gb386) (o := .cells #[.bool false, .bool t375, .bool t376, .int .i64 t377, .int .u16 t378, .int .u32 t379, .int .u32 t380, .slice Ao14 t381.length co14] 43 (0, 0)) (pk BK386) hg (Kd.R_ne HO408.out BK386.out (by decide))); replace BK387 := Aside0.mk (blk_grown (g := gb387) (o := .cells #[.bool false, .bool t375, .bool t376, .int .i64 t377, .int .u16 t378, .int .u32 t379, .int .u32 t380, .slice Ao14 t381.length co14, .int .u16 x388008_7, u388009, .slice none 0 0, .int .i64 0] 45 (0, 0)) (pk BK387) hg (Kd.R_ne HO408.out BK387.out (by decide))); replace HB := Aside0.mk (hb); have HO412 := Aside0.mk (ho); clear HO408; clear ho hb hg hat; obtain ⟨Ao104, co104, eo104⟩ := Kd.R_slice HO412.out; subst eo104; obtain ⟨Z105_0, Z105_1, Z105_2, Z105_3, Z105_4, Z105_5, Z105_6, Z105_7, Z105_8, Z105_9, Z105_10, Z105_11, Y105_0, Y105_1, Y105_2, Y105_3, Y105_4, Y105_5, Y105_6, Y105_7, Y105_8, Y105_9, Y105_10, Y105_11⟩ := bc12 BK387.out) | ((with_reducible refine gate_store (t := 22) (p := 88) rfl ?_); refine store_event (t := 22) (p := 88) (v := ?vo_w106) (w1 := (w103.setCell ⟨gb387, 10, none⟩ (.slice Ao104 y410.length co104))) ?hg ?ho ?hn ?hr ?_; (case ho => rfl); (case hg => rfl); (case hn => rfl); (case hr => first | (go_simp; done) | (go_simp; rfl)); intro w106 hw; replace HO_387007 := rfE hw HO_387007 BK387; replace HO_388007 := rfE hw HO_388007 BK387; replace HO_388009 : Aside0 (Kd.R (Kd.int .u8) 5 w106 w.heap.size (fun k_ => some k_ ≠ (.slice Ao104 y410.length co104 : Value).ownBlock) u388009 x388009_7) := ⟨Kd.R_mono (rfF hw HO_388009 BK387) (fun _ hk => hk.1.2)⟩; replace HO412 := rfE hw HO412 BK387; replace BK373 := bfE hw BK373 NB373_387; replace BK386 := bfE hw BK386 NB386_387; replace BK387 : Aside0 (w106.heap[gb387]? = some (.cells #[.bool false, .bool t375, .bool t376, .int .i64 t377, .int .u16 t378, .int .u32 t379, .int .u32 t380, .slice Ao14 t381.length co14, .int .u16 x388008_7, u388009, .slice Ao104 y410.length co104, .int .i64 0] 45 (0, 0))) := ⟨by rw [hw]; exact blk_put BK387.out 10 _ rfl⟩; replace HB := bsE hw HB GE387; clear hw; obtain ⟨Z107_0, Z107_1, Z107_2, Z107_3, Z107_4, Z107_5, Z107_6, Z107_7, Z107_8, Z107_9, Z107_10, Z107_11, Y107_0, Y107_1, Y107_2, Y107_3, Y107_4, Y107_5, Y107_6, Y107_7, Y107_8, Y107_9, Y107_10, Y107_11⟩ := bc12 BK387.out; obtain ⟨Z108_0, Z108_1, Z108_2, Z108_3, Z108_4, Z108_5, Z108_6, Z108_7, Z108_8, Z108_9, Z108_10, Z108_11, Y108_0, Y108_1, Y108_2, Y108_3, Y108_4, Y108_5, Y108_6, Y108_7, Y108_8, Y108_9, Y108_10, Y108_11⟩ := bc12 BK373.out; obtain ⟨Ao109, co109, eo109⟩ := Kd.R_slice HO_388009.out; subst eo109) | ((with_reducible refine gate_store (t := 45) (p := 2) rfl ?_); refine store_event (t := 45) (p := 2) (v := ?vo_w110) (w1 := ((((((((((((w106.setCell ⟨gb373, 0, none⟩ (.bool false)).setCell ⟨gb373, 1, none⟩ (.bool t375)).setCell ⟨gb373, 2, none⟩ (.bool t376)).setCell ⟨gb373, 3, none⟩ (.int .i64 t377)).setCell ⟨gb373, 4, none⟩ (.int .u16 t378)).setCell ⟨gb373, 5, none⟩ (.int .u32 t379)).setCell ⟨gb373, 6, none⟩ (.int .u32 t380)).setCell ⟨gb373, 7, none⟩ (.slice Ao14 t381.length co14)).setCell ⟨gb373, 8, none⟩ (.int .u16 x388008_7)).setCell ⟨gb373, 9, none⟩ (.slice Ao109 x388009_7.length co109)).setCell ⟨gb373, 10, none⟩ (.slice Ao104 y410.length co104)).setCell ⟨gb373, 11, none⟩ (.int .i64 0))) ?hg ?ho ?hn ?hr ?_; (case ho => rfl); (case hg => rfl); (case hn => rfl); (case hr => first | (go_simp; done) | (go_simp; rfl)); intro w110 hw; replace HO_387007 := rfE hw HO_387007 BK373; replace HO_388007 := rfE hw HO_388007 BK373; replace HO_388009 := rfE hw HO_388009 BK373; replace HO412 := rfE hw HO412 BK373; replace BK373 : Aside0 (w110.heap[gb373]? = some (.cells #[.bool false, .bool t375, .bool t376, .int .i64 t377, .int .u16 t378, .int .u32 t379, .int .u32 t380, .slice Ao14 t381.length co14, .int .u16 x388008_7, .slice Ao109 x388009_7.length co109, .slice Ao104 y410.length co104, .int .i64 0] 45 (0, 0))) := ⟨by rw [hw]; apply puts12; exact BK373.out⟩; replace BK386 := bfE hw BK386 NB386_373; replace BK387 := bfE hw BK387 NB387_373; replace HB := bsE hw HB GE373; clear hw))
        refine bodyPost_ret (results_ct rfl _ _ gb373 45 #[.bool false, .bool t375, .bool t376, .int .i64 t377, .int .u16 t378, .int .u32 t379, .int .u32 t380, .slice Ao14 t381.length co14, .int .u16 x388008_7, .slice Ao109 x388009_7.length co109, .slice Ao104 y410.length co104, .int .i64 0] (0, 0) _ rfl (pk BK373) Try.underlying45 rfl (by kernel_rfl)) rfl ?_
        exact ⟨_, _, _, by first | rfl | (simp [errW_none, errW_some] <;> rfl) | (simp [*, errW_none, errW_some] <;> rfl), by (with_reducible repeat (first | apply Kd.R_alloc | apply Kd.R_drewN | apply Kd.R_drew)); exact HO_388007.out, by (with_reducible repeat (first | apply Kd.R_alloc | apply Kd.R_drewN | apply Kd.R_drew)); exact HO_388009.out, by (with_reducible repeat (first | apply Kd.R_alloc | apply Kd.R_drewN | apply Kd.R_drew)); exact HO412.out, by repeat (first | (with_reducible first | exact HB.out | apply below_alloc | apply pw_below_drewN | apply below_drew1 | refine below_set ?_ GE373.out | refine below_set ?_ GE386.out | refine below_set ?_ GE387.out) | exact HB.out)⟩
       rw [if_neg c94] at H
       exact absurd H (by simp)
      rw [if_neg c93] at H
      exact absurd H (by simp)
     rw [if_neg c92] at H
     exact absurd H (by simp)
    rw [if_neg c91] at H
    exact absurd H (by simp)
 rw [if_neg c7] at H
 have c7b0 : (t385 == 0) = false := beq_eq_false_iff_ne.mpr c7
 have c7b1 : (t385 != 0) = true := bne_iff_ne.mpr c7
 simp only [Option.some.injEq, Prod.mk.injEq] at H
 obtain ⟨rfl, rfl, rfl, rfl, rfl, rfl, rfl, rfl, rfl, rfl, rfl, rfl, rfl⟩ := H
 go_enter Try.func26, Try.ntmps26
 go_wp2_with (first | ((with_reducible refine gate_dst (N := 2) rfl ?_); refine box_event ?hg (N := 2) ?hd (cs := #[.bool false, .bool false, .bool false, .int .i64 0, .int .u16 0, .int .u32 0, .int .u32 0, .slice none 0 0, .int .u16 0, .slice none 0 0, .slice none 0 0, .int .i64 0]) (t := 45) ?hr ?_; (case hd => rfl); (case hg => rfl); (case hr => first | (go_simp; done) | (go_simp; rfl)); intro gb373 hg w111 hbox hb; have n0_ := bstE HB hb; have BK373 := Aside0.mk (hbox); have GW373 := geE hg HB; have GE373 := geE hg HB; clear HB; have HB := n0_; clear n0_; clear hb hbox hg) | ((with_reducible refine gate_callee (f := 42) rfl ?_); refine goesL_ (some 15) rfl rfl Try.func42 (by kernel_rfl) rfl #[.slice A0 l0.length c0] rfl (by (try simp only [List.map_toArray, List.map_cons, List.map_nil]); first | done | rfl | (simp only [List.length_drop, List.length_take]; rfl)) ?_; (with_reducible refine (crossbarref05_Read.calls k _ _ l0 t374 t375 t376 t377 t378 t379 t380 t381 t384 t385 _ ?side1 ?side2 A6.out).mono ?_); (case side1 => exact cbE HR0 HB); (case side2 => exact HC0.out); rintro e w112 ⟨v382, rfl, ho0, hb⟩; refine ⟨_, rfl, ?_⟩; have HO383 := Aside0.mk (Kd.R_lower ho0 (below_size (pB HB))); replace BK373 := bbE BK373 hb; replace HB := bstE HB hb; (try clear hb); (try clear hb2); (try clear hk); (try clear hi); (try clear ho0)) | ((with_reducible refine gate_dst (N := 4) rfl ?_); refine box_event ?hg (N := 4) ?hd (cs := #[.bool false, .bool false, .bool false, .int .i64 0, .int .u16 0, .int .u32 0, .int .u32 0, .slice none 0 0]) (t := 43) ?hr ?_; (case hd => rfl); (case hg => rfl); (case hr => first | (go_simp; done) | (go_simp; rfl)); intro gb386 hg w113 hbox hb; replace HO383 := rbE HO383 hb; have n1_ := bbE BK373 hb; have n2_ := bstE HB hb; have BK386 := Aside0.mk (hbox); have GW386 := geE hg HB; have GE386 := geE hg HB; have NB373_386 := nlE hg BK373; have NB386_373 := ngE hg BK373; clear BK373; clear HB; have BK373 := n1_; have HB := n2_; clear n1_ n2_; clear hb hbox hg; have hnb114 := NB386_373.out; have hnc114 := NB373_386.out; obtain ⟨Z115_0, Z115_1, Z115_2, Z115_3, Z115_4, Z115_5, Z115_6, Z115_7, Y115_0, Y115_1, Y115_2, Y115_3, Y115_4, Y115_5, Y115_6, Y115_7⟩ := bc8 BK386.out; obtain ⟨Ao116, co116, eo116⟩ := Kd.R_slice HO383.out; subst eo116) | ((with_reducible refine gate_store (t := 43) (p := 4) rfl ?_); refine store_event (t := 43) (p := 4) (v := ?vo_w117) (w1 := ((((((((w113.setCell ⟨gb386, 0, none⟩ (.bool t374)).setCell ⟨gb386, 1, none⟩ (.bool t375)).setCell ⟨gb386, 2, none⟩ (.bool t376)).setCell ⟨gb386, 3, none⟩ (.int .i64 t377)).setCell ⟨gb386, 4, none⟩ (.int .u16 t378)).setCell ⟨gb386, 5, none⟩ (.int .u32 t379)).setCell ⟨gb386, 6, none⟩ (.int .u32 t380)).setCell ⟨gb386, 7, none⟩ (.slice Ao116 t381.length co116))) ?hg ?ho ?hn ?hr ?_; (case ho => rfl); (case hg => rfl); (case hn => rfl); (case hr => first | (go_simp; done) | (go_simp; rfl)); intro w117 hw; replace HO383 := rfE hw HO383 BK386; replace BK373 := bfE hw BK373 NB373_386; replace BK386 : Aside0 (w117.heap[gb386]? = some (.cells #[.bool t374, .bool t375, .bool t376, .int .i64 t377, .int .u16 t378, .int .u32 t379, .int .u32 t380, .slice Ao116 t381.length co116] 43 (0, 0))) := ⟨by rw [hw]; apply puts8; exact BK386.out⟩; replace HB := bsE hw HB GE386; clear hw; obtain ⟨Z118_0, Z118_1, Z118_2, Z118_3, Z118_4, Z118_5, Z118_6, Z118_7, Z118_8, Z118_9, Z118_10, Z118_11, Y118_0, Y118_1, Y118_2, Y118_3, Y118_4, Y118_5, Y118_6, Y118_7, Y118_8, Y118_9, Y118_10, Y118_11⟩ := bc12 BK373.out) | ((with_reducible refine gate_store (t := 45) (p := 2) rfl ?_); refine store_event (t := 45) (p := 2) (v := ?vo_w119) (w1 := ((((((((((((w117.setCell ⟨gb373, 0, none⟩ (.bool false)).setCell ⟨gb373, 1, none⟩ (.bool false)).setCell ⟨gb373, 2, none⟩ (.bool false)).setCell ⟨gb373, 3, none⟩ (.int .i64 0)).setCell ⟨gb373, 4, none⟩ (.int .u16 0)).setCell ⟨gb373, 5, none⟩ (.int .u32 0)).setCell ⟨gb373, 6, none⟩ (.int .u32 0)).setCell ⟨gb373, 7, none⟩ (.slice none 0 0)).setCell ⟨gb373, 8, none⟩ (.int .u16 0)).setCell ⟨gb373, 9, none⟩ (.slice none 0 0)).setCell ⟨gb373, 10, none⟩ (.slice none 0 0)).setCell ⟨gb373, 11, none⟩ (.int .i64 0))) ?hg ?ho ?hn ?hr ?_; (case ho => rfl); (case hg => rfl); (case hn => rfl); (case hr => first | (go_simp; done) | (go_simp; rfl)); intro w119 hw; replace HO383 := rfE hw HO383 BK373; replace BK373 : Aside0 (w119.heap[gb373]? = some (.cells #[.bool false, .bool false, .bool false, .int .i64 0, .int .u16 0, .int .u32 0, .int .u32 0, .slice none 0 0, .int .u16 0, .slice none 0 0, .slice none 0 0, .int .i64 0] 45 (0, 0))) := ⟨by rw [hw]; apply puts12; exact BK373.out⟩; replace BK386 := bfE hw BK386 NB386_373; replace HB := bsE hw HB GE373; clear hw))
 refine bodyPost_ret (results_ct rfl _ _ gb373 45 #[.bool false, .bool false, .bool false, .int .i64 0, .int .u16 0, .int .u32 0, .int .u32 0, .slice none 0 0, .int .u16 0, .slice none 0 0, .slice none 0 0, .int .i64 0] (0, 0) _ rfl (pk BK373) Try.underlying45 rfl (by kernel_rfl)) rfl ?_
 exact ⟨_, _, _, by first | rfl | (simp [errW_none, errW_some] <;> rfl) | (simp [*, errW_none, errW_some] <;> rfl), by first | exact Kd.R_nil _ _ _ _ _ | exact Kd.N_nil _ _ _ _ _ | exact Kd.V_nil _ _ _ _ _ | exact Kd.Q_nil _ _ _ _ _ | exact Kd.S_nil _ _ _ _ _, by first | exact Kd.R_nil _ _ _ _ _ | exact Kd.N_nil _ _ _ _ _ | exact Kd.V_nil _ _ _ _ _ | exact Kd.Q_nil _ _ _ _ _ | exact Kd.S_nil _ _ _ _ _, by first | exact Kd.R_nil _ _ _ _ _ | exact Kd.N_nil _ _ _ _ _ | exact Kd.V_nil _ _ _ _ _ | exact Kd.Q_nil _ _ _ _ _ | exact Kd.S_nil _ _ _ _ _, by repeat (first | (with_reducible first | exact HB.out | apply below_alloc | apply pw_below_drewN | apply below_drew1 | refine below_set ?_ GE373.out | refine below_set ?_ GE386.out) | exact HB.out)⟩
def crossbarref05_Numbers.l0 : Nat → List Int → List Int → Int → Option (Bool)
 | 0, _, _, _ => none
 | k + 1, x0, x1, x5 => if x5 < (x0.length : Int) then (if 0 ≤ x5 then (if x5 < (x1.length : Int) then (if (rd x0 x5) = (rd x1 x5) then (crossbarref05_Numbers.l0 k x0 x1 (wrap64 (x5 + 1))) else (some false)) else (none)) else (none)) else (some true)
def crossbarref05_Numbers.f (k : Nat) (l0 : List Int) (l1 : List Int) : Option (Bool) := if (l0.length : Int) = (l1.length : Int) then (crossbarref05_Numbers.l0 k l0 l1 0) else (some false)
theorem crossbarref05_Numbers.mono_l : ∀ k, (∀ y0 y1 y2, LeO (crossbarref05_Numbers.l0 k y0 y1 y2) (crossbarref05_Numbers.l0 (k + 1) y0 y1 y2))
 | 0 => fun _ _ _ r h => by simp [crossbarref05_Numbers.l0] at h
 | k + 1 => by
  have ih0 := crossbarref05_Numbers.mono_l k
  intro y0 y1 y2
  unfold crossbarref05_Numbers.l0
  repeat' first
  | (with_reducible exact ih0 _ _ _)
  | (with_reducible exact LeO.refl _)
  | (with_reducible exact LeO.none _)
  | (with_reducible refine LeO.ite ?_ ?_)
  | (with_reducible refine LeO.bind ?_ (fun _ => ?_))
  | exact ih0 _ _ _
  | exact LeO.none _
  | refine LeO.ite ?_ ?_
  | refine LeO.bind ?_ (fun _ => ?_)
theorem crossbarref05_Numbers.mono : ∀ a0 a1 k, LeO (crossbarref05_Numbers.f k a0 a1) (crossbarref05_Numbers.f (k + 1) a0 a1) := by
 intro a0 a1 k
 have ih0 := crossbarref05_Numbers.mono_l k
 unfold crossbarref05_Numbers.f
 repeat' first
   | (with_reducible exact ih0 _ _ _)
   | (with_reducible exact LeO.refl _)
   | (with_reducible exact LeO.none _)
   | (with_reducible refine LeO.ite ?_ ?_)
   | (with_reducible refine LeO.bind ?_ (fun _ => ?_))
   | exact ih0 _ _ _
   | exact LeO.none _
   | refine LeO.ite ?_ ?_
   | refine LeO.bind ?_ (fun _ => ?_)
set_option maxHeartbeats 8000000 in
set_option maxRecDepth 100000 in
theorem crossbarref05_Numbers.calls (k : Nat) (A0 : Option Addr) (c0 : Nat) (l0 : List Int) (A1 : Option Addr) (c1 : Nat) (l1 : List Int) (r : Bool) (w : World) (hr0 : Kd.C (Kd.int .u32) w A0 l0.length l0) (hc0 : l0.length ≤ c0) (hr1 : Kd.C (Kd.int .u32) w A1 l1.length l1) (hc1 : l1.length ≤ c1) (h : crossbarref05_Numbers.f k l0 l1 = some r) :
  Calls Try.prog 50 #[.slice A0 l0.length c0, .slice A1 l1.length c1] w fun e w' => e = .returned (.bool r) ∧ Drawn0 w w' := by
 have HR0 := Aside0.mk hr0
 have HC0 := Aside0.mk hc0
 clear hr0 hc0
 have HR1 := Aside0.mk hr1
 have HC1 := Aside0.mk hc1
 clear hr1 hc1
 have H : (if (l0.length : Int) = (l1.length : Int) then (crossbarref05_Numbers.l0 k l0 l1 0) else (some false)) = some r := h
 clear h
 by_cases c3 : (l0.length : Int) = (l1.length : Int)
 ·rw [if_pos c3] at H
  have c3b0 : ((l0.length : Int) == (l1.length : Int)) = true := beq_iff_eq.mpr c3
  have c3b1 : ((l0.length : Int) != (l1.length : Int)) = false := bne_eq_false_iff_eq.mpr c3
  have c3b2 : (l0.length == l1.length) = true := by first | simpa using c3 | (simp at c3 ⊢; omega)
  clear c3
  have H' := Aside0.mk H
  clear H
  go_enter Try.func50, Try.ntmps50
  go_wp2
  repeat (go_quiet (fail); try go_wp2)
  go_loopg [5] k (fun kq v5 w' => ∃ (x5_1 : Int), v5 = .int .i64 x5_1 ∧ Aside0 (crossbarref05_Numbers.l0 kq l0 l1 x5_1 = some r) ∧ Aside0 (kq ≤ k) ∧ Drawn0 w w')
  case atStart => exact ⟨(0), (by first | rfl | (simp; done) | (simp [*]; done)), H', ⟨Nat.le_refl _⟩, by repeat (first | exact Drawn0.refl _ | apply Drawn0.step)⟩
  case round =>
   clear H'
   try clear c1
   try clear p2
   try clear c3
   try clear c3b0
   try clear c3b1
   try clear c3b2
   obtain ⟨x5_1, rfl, HA, HK1, ⟨m1, rfl⟩⟩ := hrel
   cases gk with
   | zero => exact absurd HA.out (by simp [crossbarref05_Numbers.l0])
   | succ k1 =>
    have H := HA.out
    clear HA
    simp only [crossbarref05_Numbers.l0] at H
    by_cases c4 : x5_1 < (l0.length : Int)
    ·rw [if_pos c4] at H
     have c4b0 : decide (x5_1 < (l0.length : Int)) = true := decide_eq_true c4
     clear c4
     by_cases c5 : 0 ≤ x5_1
     ·rw [if_pos c5] at H
      have c5b0 : decide (0 ≤ x5_1) = true := decide_eq_true c5
      clear c5
      by_cases c6 : x5_1 < (l1.length : Int)
      ·rw [if_pos c6] at H
       have c6b0 : decide (x5_1 < (l1.length : Int)) = true := decide_eq_true c6
       clear c6
       by_cases c7 : (rd l0 x5_1) = (rd l1 x5_1)
       ·rw [if_pos c7] at H
        have c7b0 : ((rd l0 x5_1) == (rd l1 x5_1)) = true := beq_iff_eq.mpr c7
        have c7b1 : ((rd l0 x5_1) != (rd l1 x5_1)) = false := bne_eq_false_iff_eq.mpr c7
        clear c7
        have H' := Aside0.mk H
        clear H
        have p526 : 0 ≤ (x5_1 : Int) := of_decide_eq_true (by first | (with_reducible assumption) | assumption)
        have q526 : x5_1 < (l0.length : Int) := of_decide_eq_true (by first | (with_reducible assumption) | assumption)
        obtain ⟨ad526, e526, hx526_0⟩ := Kd.at_int HR0.out x5_1 p526 q526
        cases e526
        replace p526 := eq_true p526
        replace q526 := eq_true q526
        have p527 : 0 ≤ (x5_1 : Int) := of_decide_eq_true (by first | (with_reducible assumption) | assumption)
        have q527 : x5_1 < (l1.length : Int) := of_decide_eq_true (by first | (with_reducible assumption) | assumption)
        obtain ⟨ad527, e527, hx527_0⟩ := Kd.at_int HR1.out x5_1 p527 q527
        cases e527
        replace p527 := eq_true p527
        replace q527 := eq_true q527
        go_wp2
        repeat (go_quiet (fail); try go_wp2)
        go_roundg k1
        case measure => have := HK1.out; omega
        case rel => exact ⟨(wrap64 (x5_1 + 1)), (by first | rfl | (simp; done) | (simp [*]; done)), H', ⟨by have := HK1.out; omega⟩, by repeat (first | exact Drawn0.refl _ | apply Drawn0.step)⟩
       rw [if_neg c7] at H
       have c7b0 : ((rd l0 x5_1) == (rd l1 x5_1)) = false := beq_eq_false_iff_ne.mpr c7
       have c7b1 : ((rd l0 x5_1) != (rd l1 x5_1)) = true := bne_iff_ne.mpr c7
       obtain rfl := Option.some.inj H
       have p526 : 0 ≤ (x5_1 : Int) := of_decide_eq_true (by first | (with_reducible assumption) | assumption)
       have q526 : x5_1 < (l0.length : Int) := of_decide_eq_true (by first | (with_reducible assumption) | assumption)
       obtain ⟨ad526, e526, hx526_0⟩ := Kd.at_int HR0.out x5_1 p526 q526
       cases e526
       replace p526 := eq_true p526
       replace q526 := eq_true q526
       have p527 : 0 ≤ (x5_1 : Int) := of_decide_eq_true (by first | (with_reducible assumption) | assumption)
       have q527 : x5_1 < (l1.length : Int) := of_decide_eq_true (by first | (with_reducible assumption) | assumption)
       obtain ⟨ad527, e527, hx527_0⟩ := Kd.at_int HR1.out x5_1 p527 q527
       cases e527
       replace p527 := eq_true p527
       replace q527 := eq_true q527
       go_wp2
       repeat (go_quiet (fail); try go_wp2)
       go_ret
       exact ⟨by first | rfl | (simp; done) | (simp [*]; done), by repeat (first | exact Drawn0.refl _ | apply Drawn0.step)⟩
      rw [if_neg c6] at H
      exact absurd H (by simp)
     rw [if_neg c5] at H
     exact absurd H (by simp)
    rw [if_neg c4] at H
    have c4b0 : decide (x5_1 < (l0.length : Int)) = false := decide_eq_false c4
    clear c4
    obtain rfl := Option.some.inj H
    go_wp2
    repeat (go_quiet (fail); try go_wp2)
    go_ret
    exact ⟨by first | rfl | (simp; done) | (simp [*]; done), by repeat (first | exact Drawn0.refl _ | apply Drawn0.step)⟩
 rw [if_neg c3] at H
 have c3b0 : ((l0.length : Int) == (l1.length : Int)) = false := beq_eq_false_iff_ne.mpr c3
 have c3b1 : ((l0.length : Int) != (l1.length : Int)) = true := bne_iff_ne.mpr c3
 have c3b2 : (l0.length == l1.length) = false := by first | simpa using c3 | (simp at c3 ⊢; omega)
 obtain rfl := Option.some.inj H
 go_enter Try.func50, Try.ntmps50
 go_wp2
 repeat (go_quiet (fail); try go_wp2)
 go_ret
 exact ⟨by first | rfl | (simp; done) | (simp [*]; done), by repeat (first | exact Drawn0.refl _ | apply Drawn0.step)⟩
def crossbarref05_Same.f (k : Nat) (a0_0 : Bool) (a0_1 : Bool) (a0_2 : Bool) (a0_3 : Int) (a0_4 : Int) (a0_5 : Int) (a0_6 : Int) (l0_7 : List Int) (a1_0 : Bool) (a1_1 : Bool) (a1_2 : Bool) (a1_3 : Int) (a1_4 : Int) (a1_5 : Int) (a1_6 : Int) (l1_7 : List Int) : Option (Bool) := if (a0_0 == a1_0) = true then (if (a0_1 == a1_1) = true then (if (a0_2 == a1_2) = true then (if a0_3 = a1_3 then (if a0_4 = a1_4 then (if a0_5 = a1_5 then (if a0_6 = a1_6 then ((crossbarref05_Numbers.f k l0_7 l1_7).bind fun t530 => (some t530)) else (some false)) else (some false)) else (some false)) else (some false)) else (some false)) else (some false)) else (some false)
theorem crossbarref05_Same.mono : ∀ a0 a1 a2 a3 a4 a5 a6 a7 a8 a9 a10 a11 a12 a13 a14 a15 k, LeO (crossbarref05_Same.f k a0 a1 a2 a3 a4 a5 a6 a7 a8 a9 a10 a11 a12 a13 a14 a15) (crossbarref05_Same.f (k + 1) a0 a1 a2 a3 a4 a5 a6 a7 a8 a9 a10 a11 a12 a13 a14 a15) := by
 intro a0 a1 a2 a3 a4 a5 a6 a7 a8 a9 a10 a11 a12 a13 a14 a15 k
 unfold crossbarref05_Same.f
 repeat' first
   | (with_reducible exact crossbarref05_Numbers.mono _ _ _)
   | (with_reducible exact LeO.refl _)
   | (with_reducible exact LeO.none _)
   | (with_reducible refine LeO.ite ?_ ?_)
   | (with_reducible refine LeO.bind ?_ (fun _ => ?_))
   | exact crossbarref05_Numbers.mono _ _ _
   | exact LeO.none _
   | refine LeO.ite ?_ ?_
   | refine LeO.bind ?_ (fun _ => ?_)
set_option maxHeartbeats 8000000 in
set_option maxRecDepth 100000 in
theorem crossbarref05_Same.calls (k : Nat) (a0_0 : Bool) (a0_1 : Bool) (a0_2 : Bool) (a0_3 : Int) (a0_4 : Int) (a0_5 : Int) (a0_6 : Int) (A0_7 : Option Addr) (c0_7 : Nat) (l0_7 : List Int) (a1_0 : Bool) (a1_1 : Bool) (a1_2 : Bool) (a1_3 : Int) (a1_4 : Int) (a1_5 : Int) (a1_6 : Int) (A1_7 : Option Addr) (c1_7 : Nat) (l1_7 : List Int) (r : Bool) (w : World) (hr0_7 : Kd.C (Kd.int .u32) w A0_7 l0_7.length l0_7) (hc0_7 : l0_7.length ≤ c0_7) (hr1_7 : Kd.C (Kd.int .u32) w A1_7 l1_7.length l1_7) (hc1_7 : l1_7.length ≤ c1_7) (h : crossbarref05_Same.f k a0_0 a0_1 a0_2 a0_3 a0_4 a0_5 a0_6 l0_7 a1_0 a1_1 a1_2 a1_3 a1_4 a1_5 a1_6 l1_7 = some r) :
  Calls Try.prog 33 #[.agg #[.bool a0_0, .bool a0_1, .bool a0_2, .int .i64 a0_3, .int .u16 a0_4, .int .u32 a0_5, .int .u32 a0_6, .slice A0_7 l0_7.length c0_7], .agg #[.bool a1_0, .bool a1_1, .bool a1_2, .int .i64 a1_3, .int .u16 a1_4, .int .u32 a1_5, .int .u32 a1_6, .slice A1_7 l1_7.length c1_7]] w fun e w' => e = .returned (.bool r) ∧ Below w.heap.size w w' := by
 have hu43 := Try.underlying43
 have HR0_7 := Aside0.mk hr0_7
 have HC0_7 := Aside0.mk hc0_7
 clear hr0_7 hc0_7
 have HR1_7 := Aside0.mk hr1_7
 have HC1_7 := Aside0.mk hc1_7
 clear hr1_7 hc1_7
 have HB := Aside0.mk (Below.refl w.heap.size w)
 have H : (if (a0_0 == a1_0) = true then (if (a0_1 == a1_1) = true then (if (a0_2 == a1_2) = true then (if a0_3 = a1_3 then (if a0_4 = a1_4 then (if a0_5 = a1_5 then (if a0_6 = a1_6 then ((crossbarref05_Numbers.f k l0_7 l1_7).bind fun t530 => (some t530)) else (some false)) else (some false)) else (some false)) else (some false)) else (some false)) else (some false)) else (some false)) = some r := h
 clear h
 by_cases c3 : (a0_0 == a1_0) = true
 ·rw [if_pos c3] at H
  have c3b0 : (a0_0 == a1_0) = true := c3
  (try (have c3b1 : decide (a0_0 = a1_0) = true := by simpa using c3))
  (try (have c3b2 : (a0_0 == a1_0) = true := by simpa using c3))
  clear c3
  by_cases c4 : (a0_1 == a1_1) = true
  ·rw [if_pos c4] at H
   have c4b0 : (a0_1 == a1_1) = true := c4
   (try (have c4b1 : decide (a0_1 = a1_1) = true := by simpa using c4))
   (try (have c4b2 : (a0_1 == a1_1) = true := by simpa using c4))
   clear c4
   by_cases c5 : (a0_2 == a1_2) = true
   ·rw [if_pos c5] at H
    have c5b0 : (a0_2 == a1_2) = true := c5
    (try (have c5b1 : decide (a0_2 = a1_2) = true := by simpa using c5))
    (try (have c5b2 : (a0_2 == a1_2) = true := by simpa using c5))
    clear c5
    by_cases c6 : a0_3 = a1_3
    ·rw [if_pos c6] at H
     have c6b0 : (a0_3 == a1_3) = true := beq_iff_eq.mpr c6
     have c6b1 : (a0_3 != a1_3) = false := bne_eq_false_iff_eq.mpr c6
     clear c6
     by_cases c7 : a0_4 = a1_4
     ·rw [if_pos c7] at H
      have c7b0 : (a0_4 == a1_4) = true := beq_iff_eq.mpr c7
      have c7b1 : (a0_4 != a1_4) = false := bne_eq_false_iff_eq.mpr c7
      clear c7
      by_cases c8 : a0_5 = a1_5
      ·rw [if_pos c8] at H
       have c8b0 : (a0_5 == a1_5) = true := beq_iff_eq.mpr c8
       have c8b1 : (a0_5 != a1_5) = false := bne_eq_false_iff_eq.mpr c8
       clear c8
       by_cases c9 : a0_6 = a1_6
       ·rw [if_pos c9] at H
        have c9b0 : (a0_6 == a1_6) = true := beq_iff_eq.mpr c9
        have c9b1 : (a0_6 != a1_6) = false := bne_eq_false_iff_eq.mpr c9
        clear c9
        replace H := Option.bind_eq_some_iff.mp H
        obtain ⟨t530, A100, H⟩ := H
        replace H : (some t530) = some r := H
        have A10 := Aside0.mk A100
        clear A100
        obtain rfl := Option.some.inj H
        go_enter Try.func33, Try.ntmps33
        go_wp2_with (first | ((with_reducible refine gate_dst (N := 2) rfl ?_); refine box_event ?hg (N := 2) ?hd (cs := #[.bool a0_0, .bool a0_1, .bool a0_2, .int .i64 a0_3, .int .u16 a0_4, .int .u32 a0_5, .int .u32 a0_6, .slice A0_7 l0_7.length c0_7]) (t := 43) ?hr ?_; (case hd => rfl); (case hg => rfl); (case hr => first | (go_simp; done) | (go_simp; rfl)); intro gb528 hg w11 hbox hb; have n0_ := bstE HB hb; have BK528 := Aside0.mk (hbox); have GW528 := geE hg HB; have GE528 := geE hg HB; clear HB; have HB := n0_; clear n0_; clear hb hbox hg) | ((with_reducible refine gate_dst (N := 3) rfl ?_); refine box_event ?hg (N := 3) ?hd (cs := #[.bool a1_0, .bool a1_1, .bool a1_2, .int .i64 a1_3, .int .u16 a1_4, .int .u32 a1_5, .int .u32 a1_6, .slice A1_7 l1_7.length c1_7]) (t := 43) ?hr ?_; (case hd => rfl); (case hg => rfl); (case hr => first | (go_simp; done) | (go_simp; rfl)); intro gb529 hg w12 hbox hb; have n0_ := bbE BK528 hb; have n1_ := bstE HB hb; have BK529 := Aside0.mk (hbox); have GW529 := geE hg HB; have GE529 := geE hg HB; have NB528_529 := nlE hg BK528; have NB529_528 := ngE hg BK528; clear BK528; clear HB; have BK528 := n0_; have HB := n1_; clear n0_ n1_; clear hb hbox hg; have hnb13 := NB528_529.out; have hnc13 := NB529_528.out; obtain ⟨Z14_0, Z14_1, Z14_2, Z14_3, Z14_4, Z14_5, Z14_6, Z14_7, Y14_0, Y14_1, Y14_2, Y14_3, Y14_4, Y14_5, Y14_6, Y14_7⟩ := bc8 BK528.out; obtain ⟨Z15_0, Z15_1, Z15_2, Z15_3, Z15_4, Z15_5, Z15_6, Z15_7, Y15_0, Y15_1, Y15_2, Y15_3, Y15_4, Y15_5, Y15_6, Y15_7⟩ := bc8 BK529.out) | (go_at_call 50; (with_reducible refine (crossbarref05_Numbers.calls k _ _ l0_7 _ _ l1_7 t530 _ ?side1 ?side2 ?side3 ?side4 A10.out).mono ?_); (case side1 => exact cbE HR0_7 HB); (case side2 => exact HC0_7.out); (case side3 => exact cbE HR1_7 HB); (case side4 => exact HC1_7.out); rintro e w' ⟨rfl, ⟨nd, rfl⟩⟩))
        go_ret
        exact ⟨by first | rfl | (simp [errW_none, errW_some] <;> rfl) | (simp [*, errW_none, errW_some] <;> rfl), by repeat (first | (with_reducible first | exact HB.out | apply below_alloc | apply pw_below_drewN | apply below_drew1 | refine below_set ?_ GE528.out | refine below_set ?_ GE529.out) | exact HB.out)⟩
       rw [if_neg c9] at H
       have c9b0 : (a0_6 == a1_6) = false := beq_eq_false_iff_ne.mpr c9
       have c9b1 : (a0_6 != a1_6) = true := bne_iff_ne.mpr c9
       obtain rfl := Option.some.inj H
       go_enter Try.func33, Try.ntmps33
       go_wp2_with (first | ((with_reducible refine gate_dst (N := 2) rfl ?_); refine box_event ?hg (N := 2) ?hd (cs := #[.bool a0_0, .bool a0_1, .bool a0_2, .int .i64 a0_3, .int .u16 a0_4, .int .u32 a0_5, .int .u32 a0_6, .slice A0_7 l0_7.length c0_7]) (t := 43) ?hr ?_; (case hd => rfl); (case hg => rfl); (case hr => first | (go_simp; done) | (go_simp; rfl)); intro gb528 hg w16 hbox hb; have n0_ := bstE HB hb; have BK528 := Aside0.mk (hbox); have GW528 := geE hg HB; have GE528 := geE hg HB; clear HB; have HB := n0_; clear n0_; clear hb hbox hg) | ((with_reducible refine gate_dst (N := 3) rfl ?_); refine box_event ?hg (N := 3) ?hd (cs := #[.bool a1_0, .bool a1_1, .bool a1_2, .int .i64 a1_3, .int .u16 a1_4, .int .u32 a1_5, .int .u32 a1_6, .slice A1_7 l1_7.length c1_7]) (t := 43) ?hr ?_; (case hd => rfl); (case hg => rfl); (case hr => first | (go_simp; done) | (go_simp; rfl)); intro gb529 hg w17 hbox hb; have n0_ := bbE BK528 hb; have n1_ := bstE HB hb; have BK529 := Aside0.mk (hbox); have GW529 := geE hg HB; have GE529 := geE hg HB; have NB528_529 := nlE hg BK528; have NB529_528 := ngE hg BK528; clear BK528; clear HB; have BK528 := n0_; have HB := n1_; clear n0_ n1_; clear hb hbox hg; have hnb18 := NB528_529.out; have hnc18 := NB529_528.out; obtain ⟨Z19_0, Z19_1, Z19_2, Z19_3, Z19_4, Z19_5, Z19_6, Z19_7, Y19_0, Y19_1, Y19_2, Y19_3, Y19_4, Y19_5, Y19_6, Y19_7⟩ := bc8 BK528.out; obtain ⟨Z20_0, Z20_1, Z20_2, Z20_3, Z20_4, Z20_5, Z20_6, Z20_7, Y20_0, Y20_1, Y20_2, Y20_3, Y20_4, Y20_5, Y20_6, Y20_7⟩ := bc8 BK529.out))
       go_ret
       exact ⟨by first | rfl | (simp [errW_none, errW_some] <;> rfl) | (simp [*, errW_none, errW_some] <;> rfl), by repeat (first | (with_reducible first | exact HB.out | apply below_alloc | apply pw_below_drewN | apply below_drew1 | refine below_set ?_ GE528.out | refine below_set ?_ GE529.out) | exact HB.out)⟩
      rw [if_neg c8] at H
      have c8b0 : (a0_5 == a1_5) = false := beq_eq_false_iff_ne.mpr c8
      have c8b1 : (a0_5 != a1_5) = true := bne_iff_ne.mpr c8
      obtain rfl := Option.some.inj H
      go_enter Try.func33, Try.ntmps33
      go_wp2_with (first | ((with_reducible refine gate_dst (N := 2) rfl ?_); refine box_event ?hg (N := 2) ?hd (cs := #[.bool a0_0, .bool a0_1, .bool a0_2, .int .i64 a0_3, .int .u16 a0_4, .int .u32 a0_5, .int .u32 a0_6, .slice A0_7 l0_7.length c0_7]) (t := 43) ?hr ?_; (case hd => rfl); (case hg => rfl); (case hr => first | (go_simp; done) | (go_simp; rfl)); intro gb528 hg w21 hbox hb; have n0_ := bstE HB hb; have BK528 := Aside0.mk (hbox); have GW528 := geE hg HB; have GE528 := geE hg HB; clear HB; have HB := n0_; clear n0_; clear hb hbox hg) | ((with_reducible refine gate_dst (N := 3) rfl ?_); refine box_event ?hg (N := 3) ?hd (cs := #[.bool a1_0, .bool a1_1, .bool a1_2, .int .i64 a1_3, .int .u16 a1_4, .int .u32 a1_5, .int .u32 a1_6, .slice A1_7 l1_7.length c1_7]) (t := 43) ?hr ?_; (case hd => rfl); (case hg => rfl); (case hr => first | (go_simp; done) | (go_simp; rfl)); intro gb529 hg w22 hbox hb; have n0_ := bbE BK528 hb; have n1_ := bstE HB hb; have BK529 := Aside0.mk (hbox); have GW529 := geE hg HB; have GE529 := geE hg HB; have NB528_529 := nlE hg BK528; have NB529_528 := ngE hg BK528; clear BK528; clear HB; have BK528 := n0_; have HB := n1_; clear n0_ n1_; clear hb hbox hg; have hnb23 := NB528_529.out; have hnc23 := NB529_528.out; obtain ⟨Z24_0, Z24_1, Z24_2, Z24_3, Z24_4, Z24_5, Z24_6, Z24_7, Y24_0, Y24_1, Y24_2, Y24_3, Y24_4, Y24_5, Y24_6, Y24_7⟩ := bc8 BK528.out; obtain ⟨Z25_0, Z25_1, Z25_2, Z25_3, Z25_4, Z25_5, Z25_6, Z25_7, Y25_0, Y25_1, Y25_2, Y25_3, Y25_4, Y25_5, Y25_6, Y25_7⟩ := bc8 BK529.out))
      go_ret
      exact ⟨by first | rfl | (simp [errW_none, errW_some] <;> rfl) | (simp [*, errW_none, errW_some] <;> rfl), by repeat (first | (with_reducible first | exact HB.out | apply below_alloc | apply pw_below_drewN | apply below_drew1 | refine below_set ?_ GE528.out | refine below_set ?_ GE529.out) | exact HB.out)⟩
     rw [if_neg c7] at H
     have c7b0 : (a0_4 == a1_4) = false := beq_eq_false_iff_ne.mpr c7
     have c7b1 : (a0_4 != a1_4) = true := bne_iff_ne.mpr c7
     obtain rfl := Option.some.inj H
     go_enter Try.func33, Try.ntmps33
     go_wp2_with (first | ((with_reducible refine gate_dst (N := 2) rfl ?_); refine box_event ?hg (N := 2) ?hd (cs := #[.bool a0_0, .bool a0_1, .bool a0_2, .int .i64 a0_3, .int .u16 a0_4, .int .u32 a0_5, .int .u32 a0_6, .slice A0_7 l0_7.length c0_7]) (t := 43) ?hr ?_; (case hd => rfl); (case hg => rfl); (case hr => first | (go_simp; done) | (go_simp; rfl)); intro gb528 hg w26 hbox hb; have n0_ := bstE HB hb; have BK528 := Aside0.mk (hbox); have GW528 := geE hg HB; have GE528 := geE hg HB; clear HB; have HB := n0_; clear n0_; clear hb hbox hg) | ((with_reducible refine gate_dst (N := 3) rfl ?_); refine box_event ?hg (N := 3) ?hd (cs := #[.bool a1_0, .bool a1_1, .bool a1_2, .int .i64 a1_3, .int .u16 a1_4, .int .u32 a1_5, .int .u32 a1_6, .slice A1_7 l1_7.length c1_7]) (t := 43) ?hr ?_; (case hd => rfl); (case hg => rfl); (case hr => first | (go_simp; done) | (go_simp; rfl)); intro gb529 hg w27 hbox hb; have n0_ := bbE BK528 hb; have n1_ := bstE HB hb; have BK529 := Aside0.mk (hbox); have GW529 := geE hg HB; have GE529 := geE hg HB; have NB528_529 := nlE hg BK528; have NB529_528 := ngE hg BK528; clear BK528; clear HB; have BK528 := n0_; have HB := n1_; clear n0_ n1_; clear hb hbox hg; have hnb28 := NB528_529.out; have hnc28 := NB529_528.out; obtain ⟨Z29_0, Z29_1, Z29_2, Z29_3, Z29_4, Z29_5, Z29_6, Z29_7, Y29_0, Y29_1, Y29_2, Y29_3, Y29_4, Y29_5, Y29_6, Y29_7⟩ := bc8 BK528.out; obtain ⟨Z30_0, Z30_1, Z30_2, Z30_3, Z30_4, Z30_5, Z30_6, Z30_7, Y30_0, Y30_1, Y30_2, Y30_3, Y30_4, Y30_5, Y30_6, Y30_7⟩ := bc8 BK529.out))
     go_ret
     exact ⟨by first | rfl | (simp [errW_none, errW_some] <;> rfl) | (simp [*, errW_none, errW_some] <;> rfl), by repeat (first | (with_reducible first | exact HB.out | apply below_alloc | apply pw_below_drewN | apply below_drew1 | refine below_set ?_ GE528.out | refine below_set ?_ GE529.out) | exact HB.out)⟩
    rw [if_neg c6] at H
    have c6b0 : (a0_3 == a1_3) = false := beq_eq_false_iff_ne.mpr c6
    have c6b1 : (a0_3 != a1_3) = true := bne_iff_ne.mpr c6
    obtain rfl := Option.some.inj H
    go_enter Try.func33, Try.ntmps33
    go_wp2_with (first | ((with_reducible refine gate_dst (N := 2) rfl ?_); refine box_event ?hg (N := 2) ?hd (cs := #[.bool a0_0, .bool a0_1, .bool a0_2, .int .i64 a0_3, .int .u16 a0_4, .int .u32 a0_5, .int .u32 a0_6, .slice A0_7 l0_7.length c0_7]) (t := 43) ?hr ?_; (case hd => rfl); (case hg => rfl); (case hr => first | (go_simp; done) | (go_simp; rfl)); intro gb528 hg w31 hbox hb; have n0_ := bstE HB hb; have BK528 := Aside0.mk (hbox); have GW528 := geE hg HB; have GE528 := geE hg HB; clear HB; have HB := n0_; clear n0_; clear hb hbox hg) | ((with_reducible refine gate_dst (N := 3) rfl ?_); refine box_event ?hg (N := 3) ?hd (cs := #[.bool a1_0, .bool a1_1, .bool a1_2, .int .i64 a1_3, .int .u16 a1_4, .int .u32 a1_5, .int .u32 a1_6, .slice A1_7 l1_7.length c1_7]) (t := 43) ?hr ?_; (case hd => rfl); (case hg => rfl); (case hr => first | (go_simp; done) | (go_simp; rfl)); intro gb529 hg w32 hbox hb; have n0_ := bbE BK528 hb; have n1_ := bstE HB hb; have BK529 := Aside0.mk (hbox); have GW529 := geE hg HB; have GE529 := geE hg HB; have NB528_529 := nlE hg BK528; have NB529_528 := ngE hg BK528; clear BK528; clear HB; have BK528 := n0_; have HB := n1_; clear n0_ n1_; clear hb hbox hg; have hnb33 := NB528_529.out; have hnc33 := NB529_528.out; obtain ⟨Z34_0, Z34_1, Z34_2, Z34_3, Z34_4, Z34_5, Z34_6, Z34_7, Y34_0, Y34_1, Y34_2, Y34_3, Y34_4, Y34_5, Y34_6, Y34_7⟩ := bc8 BK528.out; obtain ⟨Z35_0, Z35_1, Z35_2, Z35_3, Z35_4, Z35_5, Z35_6, Z35_7, Y35_0, Y35_1, Y35_2, Y35_3, Y35_4, Y35_5, Y35_6, Y35_7⟩ := bc8 BK529.out))
    go_ret
    exact ⟨by first | rfl | (simp [errW_none, errW_some] <;> rfl) | (simp [*, errW_none, errW_some] <;> rfl), by repeat (first | (with_reducible first | exact HB.out | apply below_alloc | apply pw_below_drewN | apply below_drew1 | refine below_set ?_ GE528.out | refine below_set ?_ GE529.out) | exact HB.out)⟩
   rw [if_neg c5] at H
   have c5b0 : (a0_2 == a1_2) = false := by simpa using c5
   (try (have c5b1 : decide (a0_2 = a1_2) = false := by simpa using c5))
   (try (have c5b2 : (a0_2 == a1_2) = false := by simpa using c5))
   (try (have c5b3 : ¬ (a0_2 = a1_2) := by simpa using c5))
   clear c5
   obtain rfl := Option.some.inj H
   go_enter Try.func33, Try.ntmps33
   go_wp2_with (first | ((with_reducible refine gate_dst (N := 2) rfl ?_); refine box_event ?hg (N := 2) ?hd (cs := #[.bool a0_0, .bool a0_1, .bool a0_2, .int .i64 a0_3, .int .u16 a0_4, .int .u32 a0_5, .int .u32 a0_6, .slice A0_7 l0_7.length c0_7]) (t := 43) ?hr ?_; (case hd => rfl); (case hg => rfl); (case hr => first | (go_simp; done) | (go_simp; rfl)); intro gb528 hg w36 hbox hb; have n0_ := bstE HB hb; have BK528 := Aside0.mk (hbox); have GW528 := geE hg HB; have GE528 := geE hg HB; clear HB; have HB := n0_; clear n0_; clear hb hbox hg) | ((with_reducible refine gate_dst (N := 3) rfl ?_); refine box_event ?hg (N := 3) ?hd (cs := #[.bool a1_0, .bool a1_1, .bool a1_2, .int .i64 a1_3, .int .u16 a1_4, .int .u32 a1_5, .int .u32 a1_6, .slice A1_7 l1_7.length c1_7]) (t := 43) ?hr ?_; (case hd => rfl); (case hg => rfl); (case hr => first | (go_simp; done) | (go_simp; rfl)); intro gb529 hg w37 hbox hb; have n0_ := bbE BK528 hb; have n1_ := bstE HB hb; have BK529 := Aside0.mk (hbox); have GW529 := geE hg HB; have GE529 := geE hg HB; have NB528_529 := nlE hg BK528; have NB529_528 := ngE hg BK528; clear BK528; clear HB; have BK528 := n0_; have HB := n1_; clear n0_ n1_; clear hb hbox hg; have hnb38 := NB528_529.out; have hnc38 := NB529_528.out; obtain ⟨Z39_0, Z39_1, Z39_2, Z39_3, Z39_4, Z39_5, Z39_6, Z39_7, Y39_0, Y39_1, Y39_2, Y39_3, Y39_4, Y39_5, Y39_6, Y39_7⟩ := bc8 BK528.out; obtain ⟨Z40_0, Z40_1, Z40_2, Z40_3, Z40_4, Z40_5, Z40_6, Z40_7, Y40_0, Y40_1, Y40_2, Y40_3, Y40_4, Y40_5, Y40_6, Y40_7⟩ := bc8 BK529.out))
   go_ret
   exact ⟨by first | rfl | (simp [errW_none, errW_some] <;> rfl) | (simp [*, errW_none, errW_some] <;> rfl), by repeat (first | (with_reducible first | exact HB.out | apply below_alloc | apply pw_below_drewN | apply below_drew1 | refine below_set ?_ GE528.out | refine below_set ?_ GE529.out) | exact HB.out)⟩
  rw [if_neg c4] at H
  have c4b0 : (a0_1 == a1_1) = false := by simpa using c4
  (try (have c4b1 : decide (a0_1 = a1_1) = false := by simpa using c4))
  (try (have c4b2 : (a0_1 == a1_1) = false := by simpa using c4))
  (try (have c4b3 : ¬ (a0_1 = a1_1) := by simpa using c4))
  clear c4
  obtain rfl := Option.some.inj H
  go_enter Try.func33, Try.ntmps33
  go_wp2_with (first | ((with_reducible refine gate_dst (N := 2) rfl ?_); refine box_event ?hg (N := 2) ?hd (cs := #[.bool a0_0, .bool a0_1, .bool a0_2, .int .i64 a0_3, .int .u16 a0_4, .int .u32 a0_5, .int .u32 a0_6, .slice A0_7 l0_7.length c0_7]) (t := 43) ?hr ?_; (case hd => rfl); (case hg => rfl); (case hr => first | (go_simp; done) | (go_simp; rfl)); intro gb528 hg w41 hbox hb; have n0_ := bstE HB hb; have BK528 := Aside0.mk (hbox); have GW528 := geE hg HB; have GE528 := geE hg HB; clear HB; have HB := n0_; clear n0_; clear hb hbox hg) | ((with_reducible refine gate_dst (N := 3) rfl ?_); refine box_event ?hg (N := 3) ?hd (cs := #[.bool a1_0, .bool a1_1, .bool a1_2, .int .i64 a1_3, .int .u16 a1_4, .int .u32 a1_5, .int .u32 a1_6, .slice A1_7 l1_7.length c1_7]) (t := 43) ?hr ?_; (case hd => rfl); (case hg => rfl); (case hr => first | (go_simp; done) | (go_simp; rfl)); intro gb529 hg w42 hbox hb; have n0_ := bbE BK528 hb; have n1_ := bstE HB hb; have BK529 := Aside0.mk (hbox); have GW529 := geE hg HB; have GE529 := geE hg HB; have NB528_529 := nlE hg BK528; have NB529_528 := ngE hg BK528; clear BK528; clear HB; have BK528 := n0_; have HB := n1_; clear n0_ n1_; clear hb hbox hg; have hnb43 := NB528_529.out; have hnc43 := NB529_528.out; obtain ⟨Z44_0, Z44_1, Z44_2, Z44_3, Z44_4, Z44_5, Z44_6, Z44_7, Y44_0, Y44_1, Y44_2, Y44_3, Y44_4, Y44_5, Y44_6, Y44_7⟩ := bc8 BK528.out; obtain ⟨Z45_0, Z45_1, Z45_2, Z45_3, Z45_4, Z45_5, Z45_6, Z45_7, Y45_0, Y45_1, Y45_2, Y45_3, Y45_4, Y45_5, Y45_6, Y45_7⟩ := bc8 BK529.out))
  go_ret
  exact ⟨by first | rfl | (simp [errW_none, errW_some] <;> rfl) | (simp [*, errW_none, errW_some] <;> rfl), by repeat (first | (with_reducible first | exact HB.out | apply below_alloc | apply pw_below_drewN | apply below_drew1 | refine below_set ?_ GE528.out | refine below_set ?_ GE529.out) | exact HB.out)⟩
 rw [if_neg c3] at H
 have c3b0 : (a0_0 == a1_0) = false := by simpa using c3
 (try (have c3b1 : decide (a0_0 = a1_0) = false := by simpa using c3))
 (try (have c3b2 : (a0_0 == a1_0) = false := by simpa using c3))
 (try (have c3b3 : ¬ (a0_0 = a1_0) := by simpa using c3))
 clear c3
 obtain rfl := Option.some.inj H
 go_enter Try.func33, Try.ntmps33
 go_wp2_with (first | ((with_reducible refine gate_dst (N := 2) rfl ?_); refine box_event ?hg (N := 2) ?hd (cs := #[.bool a0_0, .bool a0_1, .bool a0_2, .int .i64 a0_3, .int .u16 a0_4, .int .u32 a0_5, .int .u32 a0_6, .slice A0_7 l0_7.length c0_7]) (t := 43) ?hr ?_; (case hd => rfl); (case hg => rfl); (case hr => first | (go_simp; done) | (go_simp; rfl)); intro gb528 hg w46 hbox hb; have n0_ := bstE HB hb; have BK528 := Aside0.mk (hbox); have GW528 := geE hg HB; have GE528 := geE hg HB; clear HB; have HB := n0_; clear n0_; clear hb hbox hg) | ((with_reducible refine gate_dst (N := 3) rfl ?_); refine box_event ?hg (N := 3) ?hd (cs := #[.bool a1_0, .bool a1_1, .bool a1_2, .int .i64 a1_3, .int .u16 a1_4, .int .u32 a1_5, .int .u32 a1_6, .slice A1_7 l1_7.length c1_7]) (t := 43) ?hr ?_; (case hd => rfl); (case hg => rfl); (case hr => first | (go_simp; done) | (go_simp; rfl)); intro gb529 hg w47 hbox hb; have n0_ := bbE BK528 hb; have n1_ := bstE HB hb; have BK529 := Aside0.mk (hbox); have GW529 := geE hg HB; have GE529 := geE hg HB; have NB528_529 := nlE hg BK528; have NB529_528 := ngE hg BK528; clear BK528; clear HB; have BK528 := n0_; have HB := n1_; clear n0_ n1_; clear hb hbox hg; have hnb48 := NB528_529.out; have hnc48 := NB529_528.out; obtain ⟨Z49_0, Z49_1, Z49_2, Z49_3, Z49_4, Z49_5, Z49_6, Z49_7, Y49_0, Y49_1, Y49_2, Y49_3, Y49_4, Y49_5, Y49_6, Y49_7⟩ := bc8 BK528.out; obtain ⟨Z50_0, Z50_1, Z50_2, Z50_3, Z50_4, Z50_5, Z50_6, Z50_7, Y50_0, Y50_1, Y50_2, Y50_3, Y50_4, Y50_5, Y50_6, Y50_7⟩ := bc8 BK529.out))
 go_ret
 exact ⟨by first | rfl | (simp [errW_none, errW_some] <;> rfl) | (simp [*, errW_none, errW_some] <;> rfl), by repeat (first | (with_reducible first | exact HB.out | apply below_alloc | apply pw_below_drewN | apply below_drew1 | refine below_set ?_ GE528.out | refine below_set ?_ GE529.out) | exact HB.out)⟩
def crossbarref06_Same.f (k : Nat) (a0_0 : Bool) (a0_1 : Bool) (a0_2 : Bool) (a0_3 : Int) (a0_4 : Int) (a0_5 : Int) (a0_6 : Int) (l0_7 : List Int) (a0_8 : Int) (l0_9 : List Int) (l0_10 : List Int) (a0_11 : Int) (a1_0 : Bool) (a1_1 : Bool) (a1_2 : Bool) (a1_3 : Int) (a1_4 : Int) (a1_5 : Int) (a1_6 : Int) (l1_7 : List Int) (a1_8 : Int) (l1_9 : List Int) (l1_10 : List Int) (a1_11 : Int) : Option (Bool) := (crossbarref05_Same.f k a0_0 a0_1 a0_2 a0_3 a0_4 a0_5 a0_6 l0_7 a1_0 a1_1 a1_2 a1_3 a1_4 a1_5 a1_6 l1_7).bind fun t533 => (if t533 = true then (if a0_8 = a1_8 then (if (strOfNums l0_9).toList = (strOfNums l1_9).toList then (if (strOfNums l0_10).toList = (strOfNums l1_10).toList then (some (a0_11 == a1_11)) else (some false)) else (some false)) else (some false)) else (some false))
theorem crossbarref06_Same.mono : ∀ a0 a1 a2 a3 a4 a5 a6 a7 a8 a9 a10 a11 a12 a13 a14 a15 a16 a17 a18 a19 a20 a21 a22 a23 k, LeO (crossbarref06_Same.f k a0 a1 a2 a3 a4 a5 a6 a7 a8 a9 a10 a11 a12 a13 a14 a15 a16 a17 a18 a19 a20 a21 a22 a23) (crossbarref06_Same.f (k + 1) a0 a1 a2 a3 a4 a5 a6 a7 a8 a9 a10 a11 a12 a13 a14 a15 a16 a17 a18 a19 a20 a21 a22 a23) := by
 intro a0 a1 a2 a3 a4 a5 a6 a7 a8 a9 a10 a11 a12 a13 a14 a15 a16 a17 a18 a19 a20 a21 a22 a23 k
 unfold crossbarref06_Same.f
 repeat' first
   | (with_reducible exact crossbarref05_Same.mono _ _ _ _ _ _ _ _ _ _ _ _ _ _ _ _ _)
   | (with_reducible exact LeO.refl _)
   | (with_reducible exact LeO.none _)
   | (with_reducible refine LeO.ite ?_ ?_)
   | (with_reducible refine LeO.bind ?_ (fun _ => ?_))
   | exact crossbarref05_Same.mono _ _ _ _ _ _ _ _ _ _ _ _ _ _ _ _ _
   | exact LeO.none _
   | refine LeO.ite ?_ ?_
   | refine LeO.bind ?_ (fun _ => ?_)
set_option maxHeartbeats 8000000 in
set_option maxRecDepth 100000 in
theorem crossbarref06_Same.calls (k : Nat) (a0_0 : Bool) (a0_1 : Bool) (a0_2 : Bool) (a0_3 : Int) (a0_4 : Int) (a0_5 : Int) (a0_6 : Int) (A0_7 : Option Addr) (c0_7 : Nat) (l0_7 : List Int) (a0_8 : Int) (A0_9 : Option Addr) (c0_9 : Nat) (l0_9 : List Int) (A0_10 : Option Addr) (c0_10 : Nat) (l0_10 : List Int) (a0_11 : Int) (a1_0 : Bool) (a1_1 : Bool) (a1_2 : Bool) (a1_3 : Int) (a1_4 : Int) (a1_5 : Int) (a1_6 : Int) (A1_7 : Option Addr) (c1_7 : Nat) (l1_7 : List Int) (a1_8 : Int) (A1_9 : Option Addr) (c1_9 : Nat) (l1_9 : List Int) (A1_10 : Option Addr) (c1_10 : Nat) (l1_10 : List Int) (a1_11 : Int) (r : Bool) (w : World) (hr0_7 : Kd.C (Kd.int .u32) w A0_7 l0_7.length l0_7) (hc0_7 : l0_7.length ≤ c0_7) (hr0_9 : Kd.C (Kd.int .u8) w A0_9 l0_9.length l0_9) (hc0_9 : l0_9.length ≤ c0_9) (hr0_10 : Kd.C (Kd.int .u8) w A0_10 l0_10.length l0_10) (hc0_10 : l0_10.length ≤ c0_10) (hr1_7 : Kd.C (Kd.int .u32) w A1_7 l1_7.length l1_7) (hc1_7 : l1_7.length ≤ c1_7) (hr1_9 : Kd.C (Kd.int .u8) w A1_9 l1_9.length l1_9) (hc1_9 : l1_9.length ≤ c1_9) (hr1_10 : Kd.C (Kd.int .u8) w A1_10 l1_10.length l1_10) (hc1_10 : l1_10.length ≤ c1_10) (h : crossbarref06_Same.f k a0_0 a0_1 a0_2 a0_3 a0_4 a0_5 a0_6 l0_7 a0_8 l0_9 l0_10 a0_11 a1_0 a1_1 a1_2 a1_3 a1_4 a1_5 a1_6 l1_7 a1_8 l1_9 l1_10 a1_11 = some r) :
  Calls Try.prog 18 #[.agg #[.bool a0_0, .bool a0_1, .bool a0_2, .int .i64 a0_3, .int .u16 a0_4, .int .u32 a0_5, .int .u32 a0_6, .slice A0_7 l0_7.length c0_7, .int .u16 a0_8, .slice A0_9 l0_9.length c0_9, .slice A0_10 l0_10.length c0_10, .int .i64 a0_11], .agg #[.bool a1_0, .bool a1_1, .bool a1_2, .int .i64 a1_3, .int .u16 a1_4, .int .u32 a1_5, .int .u32 a1_6, .slice A1_7 l1_7.length c1_7, .int .u16 a1_8, .slice A1_9 l1_9.length c1_9, .slice A1_10 l1_10.length c1_10, .int .i64 a1_11]] w fun e w' => e = .returned (.bool r) ∧ Below w.heap.size w w' := by
 have hu45 := Try.underlying45
 have hu43 := Try.underlying43
 have HR0_7 := Aside0.mk hr0_7
 have HC0_7 := Aside0.mk hc0_7
 clear hr0_7 hc0_7
 have HR0_9 := Aside0.mk hr0_9
 have HC0_9 := Aside0.mk hc0_9
 clear hr0_9 hc0_9
 have HR0_10 := Aside0.mk hr0_10
 have HC0_10 := Aside0.mk hc0_10
 clear hr0_10 hc0_10
 have HR1_7 := Aside0.mk hr1_7
 have HC1_7 := Aside0.mk hc1_7
 clear hr1_7 hc1_7
 have HR1_9 := Aside0.mk hr1_9
 have HC1_9 := Aside0.mk hc1_9
 clear hr1_9 hc1_9
 have HR1_10 := Aside0.mk hr1_10
 have HC1_10 := Aside0.mk hc1_10
 clear hr1_10 hc1_10
 have HB := Aside0.mk (Below.refl w.heap.size w)
 have H : ((crossbarref05_Same.f k a0_0 a0_1 a0_2 a0_3 a0_4 a0_5 a0_6 l0_7 a1_0 a1_1 a1_2 a1_3 a1_4 a1_5 a1_6 l1_7).bind fun t533 => (if t533 = true then (if a0_8 = a1_8 then (if (strOfNums l0_9).toList = (strOfNums l1_9).toList then (if (strOfNums l0_10).toList = (strOfNums l1_10).toList then (some (a0_11 == a1_11)) else (some false)) else (some false)) else (some false)) else (some false))) = some r := h
 clear h
 replace H := Option.bind_eq_some_iff.mp H
 obtain ⟨t533, A30, H⟩ := H
 replace H : (if t533 = true then (if a0_8 = a1_8 then (if (strOfNums l0_9).toList = (strOfNums l1_9).toList then (if (strOfNums l0_10).toList = (strOfNums l1_10).toList then (some (a0_11 == a1_11)) else (some false)) else (some false)) else (some false)) else (some false)) = some r := H
 have A3 := Aside0.mk A30
 clear A30
 by_cases c4 : t533 = true
 ·subst c4
  have H1 : (if a0_8 = a1_8 then (if (strOfNums l0_9).toList = (strOfNums l1_9).toList then (if (strOfNums l0_10).toList = (strOfNums l1_10).toList then (some (a0_11 == a1_11)) else (some false)) else (some false)) else (some false)) = some r := by rw [if_pos rfl] at H; exact H
  clear H
  have H := H1
  clear H1
  by_cases c5 : a0_8 = a1_8
  ·rw [if_pos c5] at H
   have c5b0 : (a0_8 == a1_8) = true := beq_iff_eq.mpr c5
   have c5b1 : (a0_8 != a1_8) = false := bne_eq_false_iff_eq.mpr c5
   clear c5
   by_cases c6 : (strOfNums l0_9).toList = (strOfNums l1_9).toList
   ·rw [if_pos c6] at H
    have c6b0 : ((strOfNums l0_9).toList == (strOfNums l1_9).toList) = true := beq_iff_eq.mpr c6
    have c6b1 : ((strOfNums l0_9).toList != (strOfNums l1_9).toList) = false := bne_eq_false_iff_eq.mpr c6
    clear c6
    by_cases c7 : (strOfNums l0_10).toList = (strOfNums l1_10).toList
    ·rw [if_pos c7] at H
     have c7b0 : ((strOfNums l0_10).toList == (strOfNums l1_10).toList) = true := beq_iff_eq.mpr c7
     have c7b1 : ((strOfNums l0_10).toList != (strOfNums l1_10).toList) = false := bne_eq_false_iff_eq.mpr c7
     clear c7
     obtain rfl := Option.some.inj H
     go_enter Try.func18, Try.ntmps18
     go_wp2_with (first | ((with_reducible refine gate_dst (N := 2) rfl ?_); refine box_event ?hg (N := 2) ?hd (cs := #[.bool a0_0, .bool a0_1, .bool a0_2, .int .i64 a0_3, .int .u16 a0_4, .int .u32 a0_5, .int .u32 a0_6, .slice A0_7 l0_7.length c0_7, .int .u16 a0_8, .slice A0_9 l0_9.length c0_9, .slice A0_10 l0_10.length c0_10, .int .i64 a0_11]) (t := 45) ?hr ?_; (case hd => rfl); (case hg => rfl); (case hr => first | (go_simp; done) | (go_simp; rfl)); intro gb531 hg w8 hbox hb; have n0_ := bstE HB hb; have BK531 := Aside0.mk (hbox); have GW531 := geE hg HB; have GE531 := geE hg HB; clear HB; have HB := n0_; clear n0_; clear hb hbox hg) | ((with_reducible refine gate_dst (N := 3) rfl ?_); refine box_event ?hg (N := 3) ?hd (cs := #[.bool a1_0, .bool a1_1, .bool a1_2, .int .i64 a1_3, .int .u16 a1_4, .int .u32 a1_5, .int .u32 a1_6, .slice A1_7 l1_7.length c1_7, .int .u16 a1_8, .slice A1_9 l1_9.length c1_9, .slice A1_10 l1_10.length c1_10, .int .i64 a1_11]) (t := 45) ?hr ?_; (case hd => rfl); (case hg => rfl); (case hr => first | (go_simp; done) | (go_simp; rfl)); intro gb532 hg w9 hbox hb; have n0_ := bbE BK531 hb; have n1_ := bstE HB hb; have BK532 := Aside0.mk (hbox); have GW532 := geE hg HB; have GE532 := geE hg HB; have NB531_532 := nlE hg BK531; have NB532_531 := ngE hg BK531; clear BK531; clear HB; have BK531 := n0_; have HB := n1_; clear n0_ n1_; clear hb hbox hg; have hnb10 := NB531_532.out; have hnc10 := NB532_531.out; obtain ⟨Z11_0, Z11_1, Z11_2, Z11_3, Z11_4, Z11_5, Z11_6, Z11_7, Z11_8, Z11_9, Z11_10, Z11_11, Y11_0, Y11_1, Y11_2, Y11_3, Y11_4, Y11_5, Y11_6, Y11_7, Y11_8, Y11_9, Y11_10, Y11_11⟩ := bc12 BK531.out; obtain ⟨Z12_0, Z12_1, Z12_2, Z12_3, Z12_4, Z12_5, Z12_6, Z12_7, Z12_8, Z12_9, Z12_10, Z12_11, Y12_0, Y12_1, Y12_2, Y12_3, Y12_4, Y12_5, Y12_6, Y12_7, Y12_8, Y12_9, Y12_10, Y12_11⟩ := bc12 BK532.out) | ((with_reducible refine gate_callee (f := 33) rfl ?_); refine goesL_ (some 9) rfl rfl Try.func33 (by kernel_rfl) rfl #[.agg #[.bool a0_0, .bool a0_1, .bool a0_2, .int .i64 a0_3, .int .u16 a0_4, .int .u32 a0_5, .int .u32 a0_6, .slice A0_7 l0_7.length c0_7], .agg #[.bool a1_0, .bool a1_1, .bool a1_2, .int .i64 a1_3, .int .u16 a1_4, .int .u32 a1_5, .int .u32 a1_6, .slice A1_7 l1_7.length c1_7]] rfl (by (try simp only [List.map_toArray, List.map_cons, List.map_nil]); first | done | rfl | (simp only [List.length_drop, List.length_take]; rfl)) ?_; (with_reducible refine (crossbarref05_Same.calls k a0_0 a0_1 a0_2 a0_3 a0_4 a0_5 a0_6 _ _ l0_7 a1_0 a1_1 a1_2 a1_3 a1_4 a1_5 a1_6 _ _ l1_7 true _ ?side1 ?side2 ?side3 ?side4 A3.out).mono ?_); (case side1 => exact cbE HR0_7 HB); (case side2 => exact HC0_7.out); (case side3 => exact cbE HR1_7 HB); (case side4 => exact HC1_7.out); rintro e w13 ⟨rfl, hb⟩; refine ⟨_, rfl, ?_⟩; replace BK531 := bbE BK531 hb; replace BK532 := bbE BK532 hb; replace HB := bstE HB hb; (try clear hb); (try clear hb2); (try clear hk); (try clear hi); obtain ⟨Z14_0, Z14_1, Z14_2, Z14_3, Z14_4, Z14_5, Z14_6, Z14_7, Z14_8, Z14_9, Z14_10, Z14_11, Y14_0, Y14_1, Y14_2, Y14_3, Y14_4, Y14_5, Y14_6, Y14_7, Y14_8, Y14_9, Y14_10, Y14_11⟩ := bc12 BK531.out; obtain ⟨Z15_0, Z15_1, Z15_2, Z15_3, Z15_4, Z15_5, Z15_6, Z15_7, Z15_8, Z15_9, Z15_10, Z15_11, Y15_0, Y15_1, Y15_2, Y15_3, Y15_4, Y15_5, Y15_6, Y15_7, Y15_8, Y15_9, Y15_10, Y15_11⟩ := bc12 BK532.out; have hcv16 := Kd.C_string (P := Try.prog) (A := A0_9) (c := c0_9) Try.underlying22 Try.underlying5 Try.underlying9 (Kd.C_below HR0_9.out HB.out); have hcv17 := Kd.C_string (P := Try.prog) (A := A1_9) (c := c1_9) Try.underlying22 Try.underlying5 Try.underlying9 (Kd.C_below HR1_9.out HB.out); have hcv18 := Kd.C_string (P := Try.prog) (A := A0_10) (c := c0_10) Try.underlying22 Try.underlying5 Try.underlying9 (Kd.C_below HR0_10.out HB.out); have hcv19 := Kd.C_string (P := Try.prog) (A := A1_10) (c := c1_10) Try.underlying22 Try.underlying5 Try.underlying9 (Kd.C_below HR1_10.out HB.out)))
     go_ret
     exact ⟨by first | rfl | (simp [errW_none, errW_some] <;> rfl) | (simp [*, errW_none, errW_some] <;> rfl), by repeat (first | (with_reducible first | exact HB.out | apply below_alloc | apply pw_below_drewN | apply below_drew1 | refine below_set ?_ GE531.out | refine below_set ?_ GE532.out) | exact HB.out)⟩
    rw [if_neg c7] at H
    have c7b0 : ((strOfNums l0_10).toList == (strOfNums l1_10).toList) = false := beq_eq_false_iff_ne.mpr c7
    have c7b1 : ((strOfNums l0_10).toList != (strOfNums l1_10).toList) = true := bne_iff_ne.mpr c7
    obtain rfl := Option.some.inj H
    go_enter Try.func18, Try.ntmps18
    go_wp2_with (first | ((with_reducible refine gate_dst (N := 2) rfl ?_); refine box_event ?hg (N := 2) ?hd (cs := #[.bool a0_0, .bool a0_1, .bool a0_2, .int .i64 a0_3, .int .u16 a0_4, .int .u32 a0_5, .int .u32 a0_6, .slice A0_7 l0_7.length c0_7, .int .u16 a0_8, .slice A0_9 l0_9.length c0_9, .slice A0_10 l0_10.length c0_10, .int .i64 a0_11]) (t := 45) ?hr ?_; (case hd => rfl); (case hg => rfl); (case hr => first | (go_simp; done) | (go_simp; rfl)); intro gb531 hg w20 hbox hb; have n0_ := bstE HB hb; have BK531 := Aside0.mk (hbox); have GW531 := geE hg HB; have GE531 := geE hg HB; clear HB; have HB := n0_; clear n0_; clear hb hbox hg) | ((with_reducible refine gate_dst (N := 3) rfl ?_); refine box_event ?hg (N := 3) ?hd (cs := #[.bool a1_0, .bool a1_1, .bool a1_2, .int .i64 a1_3, .int .u16 a1_4, .int .u32 a1_5, .int .u32 a1_6, .slice A1_7 l1_7.length c1_7, .int .u16 a1_8, .slice A1_9 l1_9.length c1_9, .slice A1_10 l1_10.length c1_10, .int .i64 a1_11]) (t := 45) ?hr ?_; (case hd => rfl); (case hg => rfl); (case hr => first | (go_simp; done) | (go_simp; rfl)); intro gb532 hg w21 hbox hb; have n0_ := bbE BK531 hb; have n1_ := bstE HB hb; have BK532 := Aside0.mk (hbox); have GW532 := geE hg HB; have GE532 := geE hg HB; have NB531_532 := nlE hg BK531; have NB532_531 := ngE hg BK531; clear BK531; clear HB; have BK531 := n0_; have HB := n1_; clear n0_ n1_; clear hb hbox hg; have hnb22 := NB531_532.out; have hnc22 := NB532_531.out; obtain ⟨Z23_0, Z23_1, Z23_2, Z23_3, Z23_4, Z23_5, Z23_6, Z23_7, Z23_8, Z23_9, Z23_10, Z23_11, Y23_0, Y23_1, Y23_2, Y23_3, Y23_4, Y23_5, Y23_6, Y23_7, Y23_8, Y23_9, Y23_10, Y23_11⟩ := bc12 BK531.out; obtain ⟨Z24_0, Z24_1, Z24_2, Z24_3, Z24_4, Z24_5, Z24_6, Z24_7, Z24_8, Z24_9, Z24_10, Z24_11, Y24_0, Y24_1, Y24_2, Y24_3, Y24_4, Y24_5, Y24_6, Y24_7, Y24_8, Y24_9, Y24_10, Y24_11⟩ := bc12 BK532.out) | ((with_reducible refine gate_callee (f := 33) rfl ?_); refine goesL_ (some 9) rfl rfl Try.func33 (by kernel_rfl) rfl #[.agg #[.bool a0_0, .bool a0_1, .bool a0_2, .int .i64 a0_3, .int .u16 a0_4, .int .u32 a0_5, .int .u32 a0_6, .slice A0_7 l0_7.length c0_7], .agg #[.bool a1_0, .bool a1_1, .bool a1_2, .int .i64 a1_3, .int .u16 a1_4, .int .u32 a1_5, .int .u32 a1_6, .slice A1_7 l1_7.length c1_7]] rfl (by (try simp only [List.map_toArray, List.map_cons, List.map_nil]); first | done | rfl | (simp only [List.length_drop, List.length_take]; rfl)) ?_; (with_reducible refine (crossbarref05_Same.calls k a0_0 a0_1 a0_2 a0_3 a0_4 a0_5 a0_6 _ _ l0_7 a1_0 a1_1 a1_2 a1_3 a1_4 a1_5 a1_6 _ _ l1_7 true _ ?side1 ?side2 ?side3 ?side4 A3.out).mono ?_); (case side1 => exact cbE HR0_7 HB); (case side2 => exact HC0_7.out); (case side3 => exact cbE HR1_7 HB); (case side4 => exact HC1_7.out); rintro e w25 ⟨rfl, hb⟩; refine ⟨_, rfl, ?_⟩; replace BK531 := bbE BK531 hb; replace BK532 := bbE BK532 hb; replace HB := bstE HB hb; (try clear hb); (try clear hb2); (try clear hk); (try clear hi); obtain ⟨Z26_0, Z26_1, Z26_2, Z26_3, Z26_4, Z26_5, Z26_6, Z26_7, Z26_8, Z26_9, Z26_10, Z26_11, Y26_0, Y26_1, Y26_2, Y26_3, Y26_4, Y26_5, Y26_6, Y26_7, Y26_8, Y26_9, Y26_10, Y26_11⟩ := bc12 BK531.out; obtain ⟨Z27_0, Z27_1, Z27_2, Z27_3, Z27_4, Z27_5, Z27_6, Z27_7, Z27_8, Z27_9, Z27_10, Z27_11, Y27_0, Y27_1, Y27_2, Y27_3, Y27_4, Y27_5, Y27_6, Y27_7, Y27_8, Y27_9, Y27_10, Y27_11⟩ := bc12 BK532.out; have hcv28 := Kd.C_string (P := Try.prog) (A := A0_9) (c := c0_9) Try.underlying22 Try.underlying5 Try.underlying9 (Kd.C_below HR0_9.out HB.out); have hcv29 := Kd.C_string (P := Try.prog) (A := A1_9) (c := c1_9) Try.underlying22 Try.underlying5 Try.underlying9 (Kd.C_below HR1_9.out HB.out); have hcv30 := Kd.C_string (P := Try.prog) (A := A0_10) (c := c0_10) Try.underlying22 Try.underlying5 Try.underlying9 (Kd.C_below HR0_10.out HB.out); have hcv31 := Kd.C_string (P := Try.prog) (A := A1_10) (c := c1_10) Try.underlying22 Try.underlying5 Try.underlying9 (Kd.C_below HR1_10.out HB.out)))
    go_ret
    exact ⟨by first | rfl | (simp [errW_none, errW_some] <;> rfl) | (simp [*, errW_none, errW_some] <;> rfl), by repeat (first | (with_reducible first | exact HB.out | apply below_alloc | apply pw_below_drewN | apply below_drew1 | refine below_set ?_ GE531.out | refine below_set ?_ GE532.out) | exact HB.out)⟩
   rw [if_neg c6] at H
   have c6b0 : ((strOfNums l0_9).toList == (strOfNums l1_9).toList) = false := beq_eq_false_iff_ne.mpr c6
   have c6b1 : ((strOfNums l0_9).toList != (strOfNums l1_9).toList) = true := bne_iff_ne.mpr c6
   obtain rfl := Option.some.inj H
   go_enter Try.func18, Try.ntmps18
   go_wp2_with (first | ((with_reducible refine gate_dst (N := 2) rfl ?_); refine box_event ?hg (N := 2) ?hd (cs := #[.bool a0_0, .bool a0_1, .bool a0_2, .int .i64 a0_3, .int .u16 a0_4, .int .u32 a0_5, .int .u32 a0_6, .slice A0_7 l0_7.length c0_7, .int .u16 a0_8, .slice A0_9 l0_9.length c0_9, .slice A0_10 l0_10.length c0_10, .int .i64 a0_11]) (t := 45) ?hr ?_; (case hd => rfl); (case hg => rfl); (case hr => first | (go_simp; done) | (go_simp; rfl)); intro gb531 hg w32 hbox hb; have n0_ := bstE HB hb; have BK531 := Aside0.mk (hbox); have GW531 := geE hg HB; have GE531 := geE hg HB; clear HB; have HB := n0_; clear n0_; clear hb hbox hg) | ((with_reducible refine gate_dst (N := 3) rfl ?_); refine box_event ?hg (N := 3) ?hd (cs := #[.bool a1_0, .bool a1_1, .bool a1_2, .int .i64 a1_3, .int .u16 a1_4, .int .u32 a1_5, .int .u32 a1_6, .slice A1_7 l1_7.length c1_7, .int .u16 a1_8, .slice A1_9 l1_9.length c1_9, .slice A1_10 l1_10.length c1_10, .int .i64 a1_11]) (t := 45) ?hr ?_; (case hd => rfl); (case hg => rfl); (case hr => first | (go_simp; done) | (go_simp; rfl)); intro gb532 hg w33 hbox hb; have n0_ := bbE BK531 hb; have n1_ := bstE HB hb; have BK532 := Aside0.mk (hbox); have GW532 := geE hg HB; have GE532 := geE hg HB; have NB531_532 := nlE hg BK531; have NB532_531 := ngE hg BK531; clear BK531; clear HB; have BK531 := n0_; have HB := n1_; clear n0_ n1_; clear hb hbox hg; have hnb34 := NB531_532.out; have hnc34 := NB532_531.out; obtain ⟨Z35_0, Z35_1, Z35_2, Z35_3, Z35_4, Z35_5, Z35_6, Z35_7, Z35_8, Z35_9, Z35_10, Z35_11, Y35_0, Y35_1, Y35_2, Y35_3, Y35_4, Y35_5, Y35_6, Y35_7, Y35_8, Y35_9, Y35_10, Y35_11⟩ := bc12 BK531.out; obtain ⟨Z36_0, Z36_1, Z36_2, Z36_3, Z36_4, Z36_5, Z36_6, Z36_7, Z36_8, Z36_9, Z36_10, Z36_11, Y36_0, Y36_1, Y36_2, Y36_3, Y36_4, Y36_5, Y36_6, Y36_7, Y36_8, Y36_9, Y36_10, Y36_11⟩ := bc12 BK532.out) | ((with_reducible refine gate_callee (f := 33) rfl ?_); refine goesL_ (some 9) rfl rfl Try.func33 (by kernel_rfl) rfl #[.agg #[.bool a0_0, .bool a0_1, .bool a0_2, .int .i64 a0_3, .int .u16 a0_4, .int .u32 a0_5, .int .u32 a0_6, .slice A0_7 l0_7.length c0_7], .agg #[.bool a1_0, .bool a1_1, .bool a1_2, .int .i64 a1_3, .int .u16 a1_4, .int .u32 a1_5, .int .u32 a1_6, .slice A1_7 l1_7.length c1_7]] rfl (by (try simp only [List.map_toArray, List.map_cons, List.map_nil]); first | done | rfl | (simp only [List.length_drop, List.length_take]; rfl)) ?_; (with_reducible refine (crossbarref05_Same.calls k a0_0 a0_1 a0_2 a0_3 a0_4 a0_5 a0_6 _ _ l0_7 a1_0 a1_1 a1_2 a1_3 a1_4 a1_5 a1_6 _ _ l1_7 true _ ?side1 ?side2 ?side3 ?side4 A3.out).mono ?_); (case side1 => exact cbE HR0_7 HB); (case side2 => exact HC0_7.out); (case side3 => exact cbE HR1_7 HB); (case side4 => exact HC1_7.out); rintro e w37 ⟨rfl, hb⟩; refine ⟨_, rfl, ?_⟩; replace BK531 := bbE BK531 hb; replace BK532 := bbE BK532 hb; replace HB := bstE HB hb; (try clear hb); (try clear hb2); (try clear hk); (try clear hi); obtain ⟨Z38_0, Z38_1, Z38_2, Z38_3, Z38_4, Z38_5, Z38_6, Z38_7, Z38_8, Z38_9, Z38_10, Z38_11, Y38_0, Y38_1, Y38_2, Y38_3, Y38_4, Y38_5, Y38_6, Y38_7, Y38_8, Y38_9, Y38_10, Y38_11⟩ := bc12 BK531.out; obtain ⟨Z39_0, Z39_1, Z39_2, Z39_3, Z39_4, Z39_5, Z39_6, Z39_7, Z39_8, Z39_9, Z39_10, Z39_11, Y39_0, Y39_1, Y39_2, Y39_3, Y39_4, Y39_5, Y39_6, Y39_7, Y39_8, Y39_9, Y39_10, Y39_11⟩ := bc12 BK532.out; have hcv40 := Kd.C_string (P := Try.prog) (A := A0_9) (c := c0_9) Try.underlying22 Try.underlying5 Try.underlying9 (Kd.C_below HR0_9.out HB.out); have hcv41 := Kd.C_string (P := Try.prog) (A := A1_9) (c := c1_9) Try.underlying22 Try.underlying5 Try.underlying9 (Kd.C_below HR1_9.out HB.out)))
   go_ret
   exact ⟨by first | rfl | (simp [errW_none, errW_some] <;> rfl) | (simp [*, errW_none, errW_some] <;> rfl), by repeat (first | (with_reducible first | exact HB.out | apply below_alloc | apply pw_below_drewN | apply below_drew1 | refine below_set ?_ GE531.out | refine below_set ?_ GE532.out) | exact HB.out)⟩
  rw [if_neg c5] at H
  have c5b0 : (a0_8 == a1_8) = false := beq_eq_false_iff_ne.mpr c5
  have c5b1 : (a0_8 != a1_8) = true := bne_iff_ne.mpr c5
  obtain rfl := Option.some.inj H
  go_enter Try.func18, Try.ntmps18
  go_wp2_with (first | ((with_reducible refine gate_dst (N := 2) rfl ?_); refine box_event ?hg (N := 2) ?hd (cs := #[.bool a0_0, .bool a0_1, .bool a0_2, .int .i64 a0_3, .int .u16 a0_4, .int .u32 a0_5, .int .u32 a0_6, .slice A0_7 l0_7.length c0_7, .int .u16 a0_8, .slice A0_9 l0_9.length c0_9, .slice A0_10 l0_10.length c0_10, .int .i64 a0_11]) (t := 45) ?hr ?_; (case hd => rfl); (case hg => rfl); (case hr => first | (go_simp; done) | (go_simp; rfl)); intro gb531 hg w42 hbox hb; have n0_ := bstE HB hb; have BK531 := Aside0.mk (hbox); have GW531 := geE hg HB; have GE531 := geE hg HB; clear HB; have HB := n0_; clear n0_; clear hb hbox hg) | ((with_reducible refine gate_dst (N := 3) rfl ?_); refine box_event ?hg (N := 3) ?hd (cs := #[.bool a1_0, .bool a1_1, .bool a1_2, .int .i64 a1_3, .int .u16 a1_4, .int .u32 a1_5, .int .u32 a1_6, .slice A1_7 l1_7.length c1_7, .int .u16 a1_8, .slice A1_9 l1_9.length c1_9, .slice A1_10 l1_10.length c1_10, .int .i64 a1_11]) (t := 45) ?hr ?_; (case hd => rfl); (case hg => rfl); (case hr => first | (go_simp; done) | (go_simp; rfl)); intro gb532 hg w43 hbox hb; have n0_ := bbE BK531 hb; have n1_ := bstE HB hb; have BK532 := Aside0.mk (hbox); have GW532 := geE hg HB; have GE532 := geE hg HB; have NB531_532 := nlE hg BK531; have NB532_531 := ngE hg BK531; clear BK531; clear HB; have BK531 := n0_; have HB := n1_; clear n0_ n1_; clear hb hbox hg; have hnb44 := NB531_532.out; have hnc44 := NB532_531.out; obtain ⟨Z45_0, Z45_1, Z45_2, Z45_3, Z45_4, Z45_5, Z45_6, Z45_7, Z45_8, Z45_9, Z45_10, Z45_11, Y45_0, Y45_1, Y45_2, Y45_3, Y45_4, Y45_5, Y45_6, Y45_7, Y45_8, Y45_9, Y45_10, Y45_11⟩ := bc12 BK531.out; obtain ⟨Z46_0, Z46_1, Z46_2, Z46_3, Z46_4, Z46_5, Z46_6, Z46_7, Z46_8, Z46_9, Z46_10, Z46_11, Y46_0, Y46_1, Y46_2, Y46_3, Y46_4, Y46_5, Y46_6, Y46_7, Y46_8, Y46_9, Y46_10, Y46_11⟩ := bc12 BK532.out) | ((with_reducible refine gate_callee (f := 33) rfl ?_); refine goesL_ (some 9) rfl rfl Try.func33 (by kernel_rfl) rfl #[.agg #[.bool a0_0, .bool a0_1, .bool a0_2, .int .i64 a0_3, .int .u16 a0_4, .int .u32 a0_5, .int .u32 a0_6, .slice A0_7 l0_7.length c0_7], .agg #[.bool a1_0, .bool a1_1, .bool a1_2, .int .i64 a1_3, .int .u16 a1_4, .int .u32 a1_5, .int .u32 a1_6, .slice A1_7 l1_7.length c1_7]] rfl (by (try simp only [List.map_toArray, List.map_cons, List.map_nil]); first | done | rfl | (simp only [List.length_drop, List.length_take]; rfl)) ?_; (with_reducible refine (crossbarref05_Same.calls k a0_0 a0_1 a0_2 a0_3 a0_4 a0_5 a0_6 _ _ l0_7 a1_0 a1_1 a1_2 a1_3 a1_4 a1_5 a1_6 _ _ l1_7 true _ ?side1 ?side2 ?side3 ?side4 A3.out).mono ?_); (case side1 => exact cbE HR0_7 HB); (case side2 => exact HC0_7.out); (case side3 => exact cbE HR1_7 HB); (case side4 => exact HC1_7.out); rintro e w47 ⟨rfl, hb⟩; refine ⟨_, rfl, ?_⟩; replace BK531 := bbE BK531 hb; replace BK532 := bbE BK532 hb; replace HB := bstE HB hb; (try clear hb); (try clear hb2); (try clear hk); (try clear hi); obtain ⟨Z48_0, Z48_1, Z48_2, Z48_3, Z48_4, Z48_5, Z48_6, Z48_7, Z48_8, Z48_9, Z48_10, Z48_11, Y48_0, Y48_1, Y48_2, Y48_3, Y48_4, Y48_5, Y48_6, Y48_7, Y48_8, Y48_9, Y48_10, Y48_11⟩ := bc12 BK531.out; obtain ⟨Z49_0, Z49_1, Z49_2, Z49_3, Z49_4, Z49_5, Z49_6, Z49_7, Z49_8, Z49_9, Z49_10, Z49_11, Y49_0, Y49_1, Y49_2, Y49_3, Y49_4, Y49_5, Y49_6, Y49_7, Y49_8, Y49_9, Y49_10, Y49_11⟩ := bc12 BK532.out))
  go_ret
  exact ⟨by first | rfl | (simp [errW_none, errW_some] <;> rfl) | (simp [*, errW_none, errW_some] <;> rfl), by repeat (first | (with_reducible first | exact HB.out | apply below_alloc | apply pw_below_drewN | apply below_drew1 | refine below_set ?_ GE531.out | refine below_set ?_ GE532.out) | exact HB.out)⟩
 replace c4 := Bool.eq_false_iff.mpr c4
 subst c4
 have H1 : (some false) = some r := by rw [if_neg (show ¬ (false = true) by decide)] at H; exact H
 clear H
 have H := H1
 clear H1
 obtain rfl := Option.some.inj H
 go_enter Try.func18, Try.ntmps18
 go_wp2_with (first | ((with_reducible refine gate_dst (N := 2) rfl ?_); refine box_event ?hg (N := 2) ?hd (cs := #[.bool a0_0, .bool a0_1, .bool a0_2, .int .i64 a0_3, .int .u16 a0_4, .int .u32 a0_5, .int .u32 a0_6, .slice A0_7 l0_7.length c0_7, .int .u16 a0_8, .slice A0_9 l0_9.length c0_9, .slice A0_10 l0_10.length c0_10, .int .i64 a0_11]) (t := 45) ?hr ?_; (case hd => rfl); (case hg => rfl); (case hr => first | (go_simp; done) | (go_simp; rfl)); intro gb531 hg w50 hbox hb; have n0_ := bstE HB hb; have BK531 := Aside0.mk (hbox); have GW531 := geE hg HB; have GE531 := geE hg HB; clear HB; have HB := n0_; clear n0_; clear hb hbox hg) | ((with_reducible refine gate_dst (N := 3) rfl ?_); refine box_event ?hg (N := 3) ?hd (cs := #[.bool a1_0, .bool a1_1, .bool a1_2, .int .i64 a1_3, .int .u16 a1_4, .int .u32 a1_5, .int .u32 a1_6, .slice A1_7 l1_7.length c1_7, .int .u16 a1_8, .slice A1_9 l1_9.length c1_9, .slice A1_10 l1_10.length c1_10, .int .i64 a1_11]) (t := 45) ?hr ?_; (case hd => rfl); (case hg => rfl); (case hr => first | (go_simp; done) | (go_simp; rfl)); intro gb532 hg w51 hbox hb; have n0_ := bbE BK531 hb; have n1_ := bstE HB hb; have BK532 := Aside0.mk (hbox); have GW532 := geE hg HB; have GE532 := geE hg HB; have NB531_532 := nlE hg BK531; have NB532_531 := ngE hg BK531; clear BK531; clear HB; have BK531 := n0_; have HB := n1_; clear n0_ n1_; clear hb hbox hg; have hnb52 := NB531_532.out; have hnc52 := NB532_531.out; obtain ⟨Z53_0, Z53_1, Z53_2, Z53_3, Z53_4, Z53_5, Z53_6, Z53_7, Z53_8, Z53_9, Z53_10, Z53_11, Y53_0, Y53_1, Y53_2, Y53_3, Y53_4, Y53_5, Y53_6, Y53_7, Y53_8, Y53_9, Y53_10, Y53_11⟩ := bc12 BK531.out; obtain ⟨Z54_0, Z54_1, Z54_2, Z54_3, Z54_4, Z54_5, Z54_6, Z54_7, Z54_8, Z54_9, Z54_10, Z54_11, Y54_0, Y54_1, Y54_2, Y54_3, Y54_4, Y54_5, Y54_6, Y54_7, Y54_8, Y54_9, Y54_10, Y54_11⟩ := bc12 BK532.out) | ((with_reducible refine gate_callee (f := 33) rfl ?_); refine goesL_ (some 9) rfl rfl Try.func33 (by kernel_rfl) rfl #[.agg #[.bool a0_0, .bool a0_1, .bool a0_2, .int .i64 a0_3, .int .u16 a0_4, .int .u32 a0_5, .int .u32 a0_6, .slice A0_7 l0_7.length c0_7], .agg #[.bool a1_0, .bool a1_1, .bool a1_2, .int .i64 a1_3, .int .u16 a1_4, .int .u32 a1_5, .int .u32 a1_6, .slice A1_7 l1_7.length c1_7]] rfl (by (try simp only [List.map_toArray, List.map_cons, List.map_nil]); first | done | rfl | (simp only [List.length_drop, List.length_take]; rfl)) ?_; (with_reducible refine (crossbarref05_Same.calls k a0_0 a0_1 a0_2 a0_3 a0_4 a0_5 a0_6 _ _ l0_7 a1_0 a1_1 a1_2 a1_3 a1_4 a1_5 a1_6 _ _ l1_7 false _ ?side1 ?side2 ?side3 ?side4 A3.out).mono ?_); (case side1 => exact cbE HR0_7 HB); (case side2 => exact HC0_7.out); (case side3 => exact cbE HR1_7 HB); (case side4 => exact HC1_7.out); rintro e w55 ⟨rfl, hb⟩; refine ⟨_, rfl, ?_⟩; replace BK531 := bbE BK531 hb; replace BK532 := bbE BK532 hb; replace HB := bstE HB hb; (try clear hb); (try clear hb2); (try clear hk); (try clear hi)))
 go_ret
 exact ⟨by first | rfl | (simp [errW_none, errW_some] <;> rfl) | (simp [*, errW_none, errW_some] <;> rfl), by repeat (first | (with_reducible first | exact HB.out | apply below_alloc | apply pw_below_drewN | apply below_drew1 | refine below_set ?_ GE531.out | refine below_set ?_ GE532.out) | exact HB.out)⟩
def head_Right.f (a0_0 : Bool) (a0_1 : Bool) (a0_2 : Bool) (a0_3 : Int) (a0_4 : Int) (a0_5 : Int) (a0_6 : Int) (l0_7 : List Int) : Option (Bool) := if a0_3 ≥ 0 then (if a0_3 ≤ 127 then (some (decide ((l0_7.length : Int) ≤ 15))) else (some false)) else (some false)
set_option maxHeartbeats 8000000 in
set_option maxRecDepth 100000 in
theorem head_Right.calls (a0_0 : Bool) (a0_1 : Bool) (a0_2 : Bool) (a0_3 : Int) (a0_4 : Int) (a0_5 : Int) (a0_6 : Int) (A0_7 : Option Addr) (c0_7 : Nat) (l0_7 : List Int) (r : Bool) (w : World) (hr0_7 : Kd.C (Kd.int .u32) w A0_7 l0_7.length l0_7) (hc0_7 : l0_7.length ≤ c0_7) (h : head_Right.f a0_0 a0_1 a0_2 a0_3 a0_4 a0_5 a0_6 l0_7 = some r) :
  Calls Try.prog 52 #[.agg #[.bool a0_0, .bool a0_1, .bool a0_2, .int .i64 a0_3, .int .u16 a0_4, .int .u32 a0_5, .int .u32 a0_6, .slice A0_7 l0_7.length c0_7]] w fun e w' => e = .returned (.bool r) ∧ Below w.heap.size w w' := by
 have hu43 := Try.underlying43
 have HR0_7 := Aside0.mk hr0_7
 have HC0_7 := Aside0.mk hc0_7
 clear hr0_7 hc0_7
 have HB := Aside0.mk (Below.refl w.heap.size w)
 have H : (if a0_3 ≥ 0 then (if a0_3 ≤ 127 then (some (decide ((l0_7.length : Int) ≤ 15))) else (some false)) else (some false)) = some r := h
 clear h
 by_cases c2 : a0_3 ≥ 0
 ·rw [if_pos c2] at H
  have c2b0 : decide (0 ≤ a0_3) = true := decide_eq_true c2
  clear c2
  by_cases c3 : a0_3 ≤ 127
  ·rw [if_pos c3] at H
   have c3b0 : decide (a0_3 ≤ 127) = true := decide_eq_true c3
   clear c3
   obtain rfl := Option.some.inj H
   go_enter Try.func52, Try.ntmps52
   go_wp2_with (first | ((with_reducible refine gate_dst (N := 1) rfl ?_); (try (refine gate_guard (by rfl) ?_; dsimp only)); refine box_event ?hg (N := 1) ?hd (cs := #[.bool a0_0, .bool a0_1, .bool a0_2, .int .i64 a0_3, .int .u16 a0_4, .int .u32 a0_5, .int .u32 a0_6, .slice A0_7 l0_7.length c0_7]) (t := 43) ?hr ?_; (case hd => rfl); (case hg => rfl); (case hr => first | (go_simp; done) | (go_simp; rfl)); intro gb603 hg w4 hbox hb; have n0_ := bstE HB hb; have BK603 := Aside0.mk (hbox); have GW603 := geE hg HB; have GE603 := geE hg HB; clear HB; have HB := n0_; clear n0_; clear hb hbox hg; obtain ⟨Z5_0, Z5_1, Z5_2, Z5_3, Z5_4, Z5_5, Z5_6, Z5_7, Y5_0, Y5_1, Y5_2, Y5_3, Y5_4, Y5_5, Y5_6, Y5_7⟩ := bc8 BK603.out))
   go_ret
   exact ⟨by first | rfl | (simp [errW_none, errW_some] <;> rfl) | (simp [*, errW_none, errW_some] <;> rfl), by repeat (first | (with_reducible first | exact HB.out | apply below_alloc | apply pw_below_drewN | apply below_drew1 | refine below_set ?_ GE603.out) | exact HB.out)⟩
  rw [if_neg c3] at H
  have c3b0 : decide (a0_3 ≤ 127) = false := decide_eq_false c3
  clear c3
  obtain rfl := Option.some.inj H
  go_enter Try.func52, Try.ntmps52
  go_wp2_with (first | ((with_reducible refine gate_dst (N := 1) rfl ?_); (try (refine gate_guard (by rfl) ?_; dsimp only)); refine box_event ?hg (N := 1) ?hd (cs := #[.bool a0_0, .bool a0_1, .bool a0_2, .int .i64 a0_3, .int .u16 a0_4, .int .u32 a0_5, .int .u32 a0_6, .slice A0_7 l0_7.length c0_7]) (t := 43) ?hr ?_; (case hd => rfl); (case hg => rfl); (case hr => first | (go_simp; done) | (go_simp; rfl)); intro gb603 hg w6 hbox hb; have n0_ := bstE HB hb; have BK603 := Aside0.mk (hbox); have GW603 := geE hg HB; have GE603 := geE hg HB; clear HB; have HB := n0_; clear n0_; clear hb hbox hg; obtain ⟨Z7_0, Z7_1, Z7_2, Z7_3, Z7_4, Z7_5, Z7_6, Z7_7, Y7_0, Y7_1, Y7_2, Y7_3, Y7_4, Y7_5, Y7_6, Y7_7⟩ := bc8 BK603.out))
  go_ret
  exact ⟨by first | rfl | (simp [errW_none, errW_some] <;> rfl) | (simp [*, errW_none, errW_some] <;> rfl), by repeat (first | (with_reducible first | exact HB.out | apply below_alloc | apply pw_below_drewN | apply below_drew1 | refine below_set ?_ GE603.out) | exact HB.out)⟩
 rw [if_neg c2] at H
 have c2b0 : decide (0 ≤ a0_3) = false := decide_eq_false c2
 clear c2
 obtain rfl := Option.some.inj H
 go_enter Try.func52, Try.ntmps52
 go_wp2_with (first | ((with_reducible refine gate_dst (N := 1) rfl ?_); (try (refine gate_guard (by rfl) ?_; dsimp only)); refine box_event ?hg (N := 1) ?hd (cs := #[.bool a0_0, .bool a0_1, .bool a0_2, .int .i64 a0_3, .int .u16 a0_4, .int .u32 a0_5, .int .u32 a0_6, .slice A0_7 l0_7.length c0_7]) (t := 43) ?hr ?_; (case hd => rfl); (case hg => rfl); (case hr => first | (go_simp; done) | (go_simp; rfl)); intro gb603 hg w8 hbox hb; have n0_ := bstE HB hb; have BK603 := Aside0.mk (hbox); have GW603 := geE hg HB; have GE603 := geE hg HB; clear HB; have HB := n0_; clear n0_; clear hb hbox hg; obtain ⟨Z9_0, Z9_1, Z9_2, Z9_3, Z9_4, Z9_5, Z9_6, Z9_7, Y9_0, Y9_1, Y9_2, Y9_3, Y9_4, Y9_5, Y9_6, Y9_7⟩ := bc8 BK603.out))
 go_ret
 exact ⟨by first | rfl | (simp [errW_none, errW_some] <;> rfl) | (simp [*, errW_none, errW_some] <;> rfl), by repeat (first | (with_reducible first | exact HB.out | apply below_alloc | apply pw_below_drewN | apply below_drew1 | refine below_set ?_ GE603.out) | exact HB.out)⟩
def head_Size.f (a0_0 : Bool) (a0_1 : Bool) (a0_2 : Bool) (a0_3 : Int) (a0_4 : Int) (a0_5 : Int) (a0_6 : Int) (l0_7 : List Int) : Option (Int) := (head_Right.f a0_0 a0_1 a0_2 a0_3 a0_4 a0_5 a0_6 l0_7).bind fun t605 => (if t605 = true then (some (wrap64 (12 + (wrap64 (4 * (l0_7.length : Int)))))) else (some 0))
set_option maxHeartbeats 8000000 in
set_option maxRecDepth 100000 in
theorem head_Size.calls (a0_0 : Bool) (a0_1 : Bool) (a0_2 : Bool) (a0_3 : Int) (a0_4 : Int) (a0_5 : Int) (a0_6 : Int) (A0_7 : Option Addr) (c0_7 : Nat) (l0_7 : List Int) (r : Int) (w : World) (hr0_7 : Kd.C (Kd.int .u32) w A0_7 l0_7.length l0_7) (hc0_7 : l0_7.length ≤ c0_7) (h : head_Size.f a0_0 a0_1 a0_2 a0_3 a0_4 a0_5 a0_6 l0_7 = some r) :
  Calls Try.prog 51 #[.agg #[.bool a0_0, .bool a0_1, .bool a0_2, .int .i64 a0_3, .int .u16 a0_4, .int .u32 a0_5, .int .u32 a0_6, .slice A0_7 l0_7.length c0_7]] w fun e w' => e = .returned (.int .i64 r) ∧ Below w.heap.size w w' := by
 have hu43 := Try.underlying43
 have HR0_7 := Aside0.mk hr0_7
 have HC0_7 := Aside0.mk hc0_7
 clear hr0_7 hc0_7
 have HB := Aside0.mk (Below.refl w.heap.size w)
 have H : ((head_Right.f a0_0 a0_1 a0_2 a0_3 a0_4 a0_5 a0_6 l0_7).bind fun t605 => (if t605 = true then (some (wrap64 (12 + (wrap64 (4 * (l0_7.length : Int)))))) else (some 0))) = some r := h
 clear h
 replace H := Option.bind_eq_some_iff.mp H
 obtain ⟨t605, A20, H⟩ := H
 replace H : (if t605 = true then (some (wrap64 (12 + (wrap64 (4 * (l0_7.length : Int)))))) else (some 0)) = some r := H
 have A2 := Aside0.mk A20
 clear A20
 by_cases c3 : t605 = true
 ·subst c3
  have H1 : (some (wrap64 (12 + (wrap64 (4 * (l0_7.length : Int)))))) = some r := by rw [if_pos rfl] at H; exact H
  clear H
  have H := H1
  clear H1
  obtain rfl := Option.some.inj H
  go_enter Try.func51, Try.ntmps51
  go_wp2_with (first | ((with_reducible refine gate_dst (N := 1) rfl ?_); refine box_event ?hg (N := 1) ?hd (cs := #[.bool a0_0, .bool a0_1, .bool a0_2, .int .i64 a0_3, .int .u16 a0_4, .int .u32 a0_5, .int .u32 a0_6, .slice A0_7 l0_7.length c0_7]) (t := 43) ?hr ?_; (case hd => rfl); (case hg => rfl); (case hr => first | (go_simp; done) | (go_simp; rfl)); intro gb604 hg w4 hbox hb; have n0_ := bstE HB hb; have BK604 := Aside0.mk (hbox); have GW604 := geE hg HB; have GE604 := geE hg HB; clear HB; have HB := n0_; clear n0_; clear hb hbox hg; obtain ⟨Z5_0, Z5_1, Z5_2, Z5_3, Z5_4, Z5_5, Z5_6, Z5_7, Y5_0, Y5_1, Y5_2, Y5_3, Y5_4, Y5_5, Y5_6, Y5_7⟩ := bc8 BK604.out) | ((with_reducible refine gate_callee (f := 52) rfl ?_); refine goesL_ (some 4) rfl rfl Try.func52 (by kernel_rfl) rfl #[.agg #[.bool a0_0, .bool a0_1, .bool a0_2, .int .i64 a0_3, .int .u16 a0_4, .int .u32 a0_5, .int .u32 a0_6, .slice A0_7 l0_7.length c0_7]] rfl (by (try simp only [List.map_toArray, List.map_cons, List.map_nil]); first | done | rfl | (simp only [List.length_drop, List.length_take]; rfl)) ?_; (with_reducible refine (head_Right.calls a0_0 a0_1 a0_2 a0_3 a0_4 a0_5 a0_6 _ _ l0_7 true _ ?side1 ?side2 A2.out).mono ?_); (case side1 => exact cbE HR0_7 HB); (case side2 => exact HC0_7.out); rintro e w6 ⟨rfl, hb⟩; refine ⟨_, rfl, ?_⟩; replace BK604 := bbE BK604 hb; replace HB := bstE HB hb; (try clear hb); (try clear hb2); (try clear hk); (try clear hi); obtain ⟨Z7_0, Z7_1, Z7_2, Z7_3, Z7_4, Z7_5, Z7_6, Z7_7, Y7_0, Y7_1, Y7_2, Y7_3, Y7_4, Y7_5, Y7_6, Y7_7⟩ := bc8 BK604.out))
  go_ret
  exact ⟨by first | rfl | (simp [errW_none, errW_some] <;> rfl) | (simp [*, errW_none, errW_some] <;> rfl), by repeat (first | (with_reducible first | exact HB.out | apply below_alloc | apply pw_below_drewN | apply below_drew1 | refine below_set ?_ GE604.out) | exact HB.out)⟩
 replace c3 := Bool.eq_false_iff.mpr c3
 subst c3
 have H1 : (some 0) = some r := by rw [if_neg (show ¬ (false = true) by decide)] at H; exact H
 clear H
 have H := H1
 clear H1
 obtain rfl := Option.some.inj H
 go_enter Try.func51, Try.ntmps51
 go_wp2_with (first | ((with_reducible refine gate_dst (N := 1) rfl ?_); refine box_event ?hg (N := 1) ?hd (cs := #[.bool a0_0, .bool a0_1, .bool a0_2, .int .i64 a0_3, .int .u16 a0_4, .int .u32 a0_5, .int .u32 a0_6, .slice A0_7 l0_7.length c0_7]) (t := 43) ?hr ?_; (case hd => rfl); (case hg => rfl); (case hr => first | (go_simp; done) | (go_simp; rfl)); intro gb604 hg w8 hbox hb; have n0_ := bstE HB hb; have BK604 := Aside0.mk (hbox); have GW604 := geE hg HB; have GE604 := geE hg HB; clear HB; have HB := n0_; clear n0_; clear hb hbox hg; obtain ⟨Z9_0, Z9_1, Z9_2, Z9_3, Z9_4, Z9_5, Z9_6, Z9_7, Y9_0, Y9_1, Y9_2, Y9_3, Y9_4, Y9_5, Y9_6, Y9_7⟩ := bc8 BK604.out) | ((with_reducible refine gate_callee (f := 52) rfl ?_); refine goesL_ (some 4) rfl rfl Try.func52 (by kernel_rfl) rfl #[.agg #[.bool a0_0, .bool a0_1, .bool a0_2, .int .i64 a0_3, .int .u16 a0_4, .int .u32 a0_5, .int .u32 a0_6, .slice A0_7 l0_7.length c0_7]] rfl (by (try simp only [List.map_toArray, List.map_cons, List.map_nil]); first | done | rfl | (simp only [List.length_drop, List.length_take]; rfl)) ?_; (with_reducible refine (head_Right.calls a0_0 a0_1 a0_2 a0_3 a0_4 a0_5 a0_6 _ _ l0_7 false _ ?side1 ?side2 A2.out).mono ?_); (case side1 => exact cbE HR0_7 HB); (case side2 => exact HC0_7.out); rintro e w10 ⟨rfl, hb⟩; refine ⟨_, rfl, ?_⟩; replace BK604 := bbE BK604 hb; replace HB := bstE HB hb; (try clear hb); (try clear hb2); (try clear hk); (try clear hi)))
 go_ret
 exact ⟨by first | rfl | (simp [errW_none, errW_some] <;> rfl) | (simp [*, errW_none, errW_some] <;> rfl), by repeat (first | (with_reducible first | exact HB.out | apply below_alloc | apply pw_below_drewN | apply below_drew1 | refine below_set ?_ GE604.out) | exact HB.out)⟩
def packet_sum.f (a0_0 : Bool) (a0_1 : Bool) (a0_2 : Bool) (a0_3 : Int) (a0_4 : Int) (a0_5 : Int) (a0_6 : Int) (l0_7 : List Int) (a0_8 : Int) (l0_9 : List Int) (l0_10 : List Int) (a0_11 : Int) : Option (Int) := (head_Size.f a0_0 a0_1 a0_2 a0_3 a0_4 a0_5 a0_6 l0_7).bind fun t607 => (if a0_1 = true then (some (wrap64 ((wrap64 ((wrap64 (t607 + (l0_10.length : Int))) + a0_11)) + (wrap64 (4 + (l0_9.length : Int)))))) else (some (wrap64 ((wrap64 (t607 + (l0_10.length : Int))) + a0_11))))
def packet_sum.T1 : Bool × List (List Nat × List Nat) := (true, [([], []), ([0], [0]), ([1], [1]), ([], []), ([3], [3]), ([4], [4]), ([2, 5], [2, 5]), ([], []), ([7], [7]), ([6, 8], [6, 8]), ([9, 2, 0, 1, 2, 3, 4, 5, 6, 7, 8, 9], [9])])
def packet_sum.B1 : List Nat := [0, 1, 3, 0, 8, 24, 63, 0, 128, 511, 1023]
theorem packet_sum.tab1 : rtab .any (opsOf Try.f35 1) = packet_sum.T1 := by kernel_rfl
theorem packet_sum.bits1 : waitsOk packet_sum.T1.2 packet_sum.B1 = true := by kernel_rfl
set_option maxHeartbeats 8000000 in
set_option maxRecDepth 100000 in
theorem packet_sum.calls (a0_0 : Bool) (a0_1 : Bool) (a0_2 : Bool) (a0_3 : Int) (a0_4 : Int) (a0_5 : Int) (a0_6 : Int) (A0_7 : Option Addr) (c0_7 : Nat) (l0_7 : List Int) (a0_8 : Int) (A0_9 : Option Addr) (c0_9 : Nat) (l0_9 : List Int) (A0_10 : Option Addr) (c0_10 : Nat) (l0_10 : List Int) (a0_11 : Int) (r : Int) (w : World) (hr0_7 : Kd.C (Kd.int .u32) w A0_7 l0_7.length l0_7) (hc0_7 : l0_7.length ≤ c0_7) (hr0_9 : Kd.C (Kd.int .u8) w A0_9 l0_9.length l0_9) (hc0_9 : l0_9.length ≤ c0_9) (hr0_10 : Kd.C (Kd.int .u8) w A0_10 l0_10.length l0_10) (hc0_10 : l0_10.length ≤ c0_10) (h : packet_sum.f a0_0 a0_1 a0_2 a0_3 a0_4 a0_5 a0_6 l0_7 a0_8 l0_9 l0_10 a0_11 = some r) :
  Calls Try.prog 35 #[.agg #[.bool a0_0, .bool a0_1, .bool a0_2, .int .i64 a0_3, .int .u16 a0_4, .int .u32 a0_5, .int .u32 a0_6, .slice A0_7 l0_7.length c0_7, .int .u16 a0_8, .slice A0_9 l0_9.length c0_9, .slice A0_10 l0_10.length c0_10, .int .i64 a0_11]] w fun e w' => e = .returned (.int .i64 r) ∧ Below w.heap.size w w' := by
 have hu45 := Try.underlying45
 have hu43 := Try.underlying43
 have HR0_7 := Aside0.mk hr0_7
 have HC0_7 := Aside0.mk hc0_7
 clear hr0_7 hc0_7
 have HR0_9 := Aside0.mk hr0_9
 have HC0_9 := Aside0.mk hc0_9
 clear hr0_9 hc0_9
 have HR0_10 := Aside0.mk hr0_10
 have HC0_10 := Aside0.mk hc0_10
 clear hr0_10 hc0_10
 have HB := Aside0.mk (Below.refl w.heap.size w)
 have H : ((head_Size.f a0_0 a0_1 a0_2 a0_3 a0_4 a0_5 a0_6 l0_7).bind fun t607 => (if a0_1 = true then (some (wrap64 ((wrap64 ((wrap64 (t607 + (l0_10.length : Int))) + a0_11)) + (wrap64 (4 + (l0_9.length : Int)))))) else (some (wrap64 ((wrap64 (t607 + (l0_10.length : Int))) + a0_11))))) = some r := h
 clear h
 replace H := Option.bind_eq_some_iff.mp H
 obtain ⟨t607, A20, H⟩ := H
 replace H : (if a0_1 = true then (some (wrap64 ((wrap64 ((wrap64 (t607 + (l0_10.length : Int))) + a0_11)) + (wrap64 (4 + (l0_9.length : Int)))))) else (some (wrap64 ((wrap64 (t607 + (l0_10.length : Int))) + a0_11)))) = some r := H
 have A2 := Aside0.mk A20
 clear A20
 by_cases c3 : a0_1 = true
 ·subst c3
  have H1 : (some (wrap64 ((wrap64 ((wrap64 (t607 + (l0_10.length : Int))) + a0_11)) + (wrap64 (4 + (l0_9.length : Int)))))) = some r := by rw [if_pos rfl] at H; exact H
  clear H
  have H := H1
  clear H1
  obtain rfl := Option.some.inj H
  go_enter Try.func35, Try.ntmps35
  try go_wp2_with (first | ((with_reducible refine gate_dst (N := 1) rfl ?_); refine box_event ?hg (N := 1) ?hd (cs := #[.bool a0_0, .bool true, .bool a0_2, .int .i64 a0_3, .int .u16 a0_4, .int .u32 a0_5, .int .u32 a0_6, .slice A0_7 l0_7.length c0_7, .int .u16 a0_8, .slice A0_9 l0_9.length c0_9, .slice A0_10 l0_10.length c0_10, .int .i64 a0_11]) (t := 45) ?hr ?_; (case hd => rfl); (case hg => rfl); (case hr => first | (go_simp; done) | (go_simp; rfl)); intro gb606 hg w4 hbox hb; have n0_ := bstE HB hb; have BK606 := Aside0.mk (hbox); have GW606 := geE hg HB; have GE606 := geE hg HB; clear HB; have HB := n0_; clear n0_; clear hb hbox hg))
  replace BK606 := Aside0.mk (blk_drew BK606.out)
  replace HB := Aside0.mk (below_drew1 HB.out)
  refine start_ (n := 11) (S := fun w' => w'.cell? ⟨gb606, 0, none⟩ = some (.bool a0_0) ∧ w'.cell? ⟨gb606, 1, none⟩ = some (.bool true) ∧ w'.cell? ⟨gb606, 2, none⟩ = some (.bool a0_2) ∧ w'.cell? ⟨gb606, 3, none⟩ = some (.int .i64 a0_3) ∧ w'.cell? ⟨gb606, 4, none⟩ = some (.int .u16 a0_4) ∧ w'.cell? ⟨gb606, 5, none⟩ = some (.int .u32 a0_5) ∧ w'.cell? ⟨gb606, 6, none⟩ = some (.int .u32 a0_6) ∧ w'.cell? ⟨gb606, 7, none⟩ = some (.slice A0_7 l0_7.length c0_7) ∧ w'.cell? ⟨gb606, 8, none⟩ = some (.int .u16 a0_8) ∧ w'.cell? ⟨gb606, 9, none⟩ = some (.slice A0_9 l0_9.length c0_9) ∧ w'.cell? ⟨gb606, 10, none⟩ = some (.slice A0_10 l0_10.length c0_10) ∧ w'.cell? ⟨gb606, 11, none⟩ = some (.int .i64 a0_11)) (ds := []) #[false, false, false, false, false, false, false, false, false, false, false] (by kernel_rfl) rfl rfl ⟨(blk_cell BK606.out 0).trans rfl, (blk_cell BK606.out 1).trans rfl, (blk_cell BK606.out 2).trans rfl, (blk_cell BK606.out 3).trans rfl, (blk_cell BK606.out 4).trans rfl, (blk_cell BK606.out 5).trans rfl, (blk_cell BK606.out 6).trans rfl, (blk_cell BK606.out 7).trans rfl, (blk_cell BK606.out 8).trans rfl, (blk_cell BK606.out 9).trans rfl, (blk_cell BK606.out 10).trans rfl, (blk_cell BK606.out 11).trans rfl⟩ (fun hHeld => ?_); refine with_tabW packet_sum.tab1 packet_sum.bits1 (fun HT_ HW_ => ?_)
  generalize w4.drew = w5 at BK606 HB hHeld ⊢
  refine pure_ (i := 0) (N := some 4) (v := ?_) (a' := ?_) #[true, false, false, false, false, false, false, false, false, false, false] rfl rfl (any_of HT_.out (by kernel_rfl)) (fun _ _ _ h => h) (Or.inl ⟨by rfl, ?_⟩) ?_ ?_
  rotate_left
  ·intro w'
   go_simp
   with_reducible rfl
  rotate_left
  ·simp only [Act.put, List.setIfInBounds_toArray, List.set_cons_zero, List.set_cons_succ, i64_w, i32_w]
   rfl
  refine pure_ (i := 3) (N := some 7) (v := ?_) (a' := ?_) #[true, false, false, true, false, false, false, false, false, false, false] rfl rfl (any_of HT_.out (by kernel_rfl)) (fun _ _ _ h => h) (Or.inl ⟨by rfl, ?_⟩) ?_ ?_
  rotate_left
  ·intro w'
   go_simp
   with_reducible rfl
  rotate_left
  ·simp only [Act.put, List.setIfInBounds_toArray, List.set_cons_zero, List.set_cons_succ, i64_w, i32_w]
   rfl
  refine pure_ (i := 7) (N := some 11) (v := ?_) (a' := ?_) #[true, false, false, true, false, false, false, true, false, false, false] rfl rfl (any_of HT_.out (by kernel_rfl)) (fun _ _ _ h => h) (Or.inl ⟨by rfl, ?_⟩) ?_ ?_
  rotate_left
  ·intro w'
   go_simp
   with_reducible rfl
  rotate_left
  ·simp only [Act.put, List.setIfInBounds_toArray, List.set_cons_zero, List.set_cons_succ, i64_w, i32_w]
   rfl
  refine take_ (i := 1) (N := some 5) (v := ?_) (a' := ?_) #[true, true, false, true, false, false, false, true, false, false, false] rfl rfl (take_ofW HT_.out HW_.out (by kernel_rfl)) (fun _ _ _ h => h) (Or.inl ⟨by rfl, ?_⟩) hHeld ?_ ?_
  rotate_left
  ·rintro w' ⟨s0, s1, s2, s3, s4, s5, s6, s7, s8, s9, s10, s11⟩
   go_simp
   with_reducible rfl
  rotate_left
  ·simp only [Act.put, List.setIfInBounds_toArray, List.set_cons_zero, List.set_cons_succ, i64_w, i32_w]
   rfl
  refine take_ (i := 4) (N := some 8) (v := ?_) (a' := ?_) #[true, true, false, true, true, false, false, true, false, false, false] rfl rfl (take_ofW HT_.out HW_.out (by kernel_rfl)) (fun _ _ _ h => h) (Or.inl ⟨by rfl, ?_⟩) hHeld ?_ ?_
  rotate_left
  ·rintro w' ⟨s0, s1, s2, s3, s4, s5, s6, s7, s8, s9, s10, s11⟩
   go_simp
   with_reducible rfl
  rotate_left
  ·simp only [Act.put, List.setIfInBounds_toArray, List.set_cons_zero, List.set_cons_succ, i64_w, i32_w]
   rfl
  refine pure_ (i := 5) (N := some 9) (v := ?_) (a' := ?_) #[true, true, false, true, true, true, false, true, false, false, false] rfl rfl (any_of HT_.out (by kernel_rfl)) (fun _ _ _ h => h) (Or.inl ⟨by rfl, ?_⟩) ?_ ?_
  rotate_left
  ·intro w'
   go_simp
   with_reducible rfl
  rotate_left
  ·simp only [Act.put, List.setIfInBounds_toArray, List.set_cons_zero, List.set_cons_succ, i64_w, i32_w]
   rfl
  refine take_ (i := 8) (N := some 12) (v := ?_) (a' := ?_) #[true, true, false, true, true, true, false, true, true, false, false] rfl rfl (take_ofW HT_.out HW_.out (by kernel_rfl)) (fun _ _ _ h => h) (Or.inl ⟨by rfl, ?_⟩) hHeld ?_ ?_
  rotate_left
  ·rintro w' ⟨s0, s1, s2, s3, s4, s5, s6, s7, s8, s9, s10, s11⟩
   go_simp
   with_reducible rfl
  rotate_left
  ·simp only [Act.put, List.setIfInBounds_toArray, List.set_cons_zero, List.set_cons_succ, i64_w, i32_w]
   rfl
  refine one_ (i := 2) (N := some 6) #[true, true, true, true, true, true, false, true, true, false, false] rfl rfl (one_of HT_.out (by kernel_rfl)) (by decide) (fun K hK => ?_)
  refine goes_ Try.func51 (by kernel_rfl) rfl #[.agg #[.bool a0_0, .bool true, .bool a0_2, .int .i64 a0_3, .int .u16 a0_4, .int .u32 a0_5, .int .u32 a0_6, .slice A0_7 l0_7.length c0_7]] (by rfl) rfl rfl (by (try simp only [List.map_toArray, List.map_cons, List.map_nil]); first | done | rfl | (simp only [List.length_drop, List.length_take]; rfl)) ?_
  with_reducible refine (head_Size.calls a0_0 true a0_2 a0_3 a0_4 a0_5 a0_6 _ _ l0_7 t607 _ ?side1 ?side2 A2.out).mono ?_
  (case side1 => exact cbE HR0_7 HB)
  (case side2 => exact HC0_7.out)
  rintro e w6 ⟨rfl, hb⟩
  refine ⟨_, rfl, ?_⟩
  replace BK606 := bbE BK606 hb
  replace HB := bstE HB hb
  (try clear hb)
  (try clear hb2)
  (try clear hk)
  (try clear hi)
  refine hK.out _ _ ⟨(blk_cell BK606.out 0).trans rfl, (blk_cell BK606.out 1).trans rfl, (blk_cell BK606.out 2).trans rfl, (blk_cell BK606.out 3).trans rfl, (blk_cell BK606.out 4).trans rfl, (blk_cell BK606.out 5).trans rfl, (blk_cell BK606.out 6).trans rfl, (blk_cell BK606.out 7).trans rfl, (blk_cell BK606.out 8).trans rfl, (blk_cell BK606.out 9).trans rfl, (blk_cell BK606.out 10).trans rfl, (blk_cell BK606.out 11).trans rfl⟩ (fun hHeld => ?_)
  clear hK K
  refine norm_ (a' := ?_) ?_ ?_
  rotate_left
  ·show Act.put _ (some 6) _ = _
   simp only [Act.put, List.setIfInBounds_toArray, List.set_cons_zero, List.set_cons_succ, i64_w, i32_w]
   rfl
  refine pure_ (i := 6) (N := some 10) (v := ?_) (a' := ?_) #[true, true, true, true, true, true, true, true, true, false, false] rfl rfl (any_of HT_.out (by kernel_rfl)) (fun _ _ _ h => h) (Or.inl ⟨by rfl, ?_⟩) ?_ ?_
  rotate_left
  ·intro w'
   go_simp
   with_reducible rfl
  rotate_left
  ·simp only [Act.put, List.setIfInBounds_toArray, List.set_cons_zero, List.set_cons_succ, i64_w, i32_w]
   rfl
  refine pure_ (i := 9) (N := some 13) (v := ?_) (a' := ?_) #[true, true, true, true, true, true, true, true, true, true, false] rfl rfl (any_of HT_.out (by kernel_rfl)) (fun _ _ _ h => h) (Or.inl ⟨by rfl, ?_⟩) ?_ ?_
  rotate_left
  ·intro w'
   go_simp
   with_reducible rfl
  rotate_left
  ·simp only [Act.put, List.setIfInBounds_toArray, List.set_cons_zero, List.set_cons_succ, i64_w, i32_w]
   rfl
  refine pure_ (i := 10) (N := some 3) (v := ?_) (a' := ?_) #[true, true, true, true, true, true, true, true, true, true, true] rfl rfl (any_of HT_.out (by kernel_rfl)) (fun _ _ _ h => h) (Or.inl ⟨by rfl, ?_⟩) ?_ ?_
  rotate_left
  ·intro w'
   go_simp
   with_reducible rfl
  rotate_left
  ·simp only [Act.put, List.setIfInBounds_toArray, List.set_cons_zero, List.set_cons_succ, i64_w, i32_w]
   rfl
  refine done_ (done_of HT_.out (by kernel_rfl)) ?_
  obtain ⟨Z7_0, Z7_1, Z7_2, Z7_3, Z7_4, Z7_5, Z7_6, Z7_7, Z7_8, Z7_9, Z7_10, Z7_11, Y7_0, Y7_1, Y7_2, Y7_3, Y7_4, Y7_5, Y7_6, Y7_7, Y7_8, Y7_9, Y7_10, Y7_11⟩ := bc12 BK606.out
  try go_wp2
  go_ret
  exact ⟨by first | rfl | (simp [errW_none, errW_some] <;> rfl) | (simp [*, errW_none, errW_some] <;> rfl), by repeat (first | (with_reducible first | exact HB.out | apply below_alloc | apply pw_below_drewN | apply below_drew1 | refine below_set ?_ GE606.out) | exact HB.out)⟩
 replace c3 := Bool.eq_false_iff.mpr c3
 subst c3
 have H1 : (some (wrap64 ((wrap64 (t607 + (l0_10.length : Int))) + a0_11))) = some r := by rw [if_neg (show ¬ (false = true) by decide)] at H; exact H
 clear H
 have H := H1
 clear H1
 obtain rfl := Option.some.inj H
 go_enter Try.func35, Try.ntmps35
 try go_wp2_with (first | ((with_reducible refine gate_dst (N := 1) rfl ?_); refine box_event ?hg (N := 1) ?hd (cs := #[.bool a0_0, .bool false, .bool a0_2, .int .i64 a0_3, .int .u16 a0_4, .int .u32 a0_5, .int .u32 a0_6, .slice A0_7 l0_7.length c0_7, .int .u16 a0_8, .slice A0_9 l0_9.length c0_9, .slice A0_10 l0_10.length c0_10, .int .i64 a0_11]) (t := 45) ?hr ?_; (case hd => rfl); (case hg => rfl); (case hr => first | (go_simp; done) | (go_simp; rfl)); intro gb606 hg w8 hbox hb; have n0_ := bstE HB hb; have BK606 := Aside0.mk (hbox); have GW606 := geE hg HB; have GE606 := geE hg HB; clear HB; have HB := n0_; clear n0_; clear hb hbox hg))
 replace BK606 := Aside0.mk (blk_drew BK606.out)
 replace HB := Aside0.mk (below_drew1 HB.out)
 refine start_ (n := 11) (S := fun w' => w'.cell? ⟨gb606, 0, none⟩ = some (.bool a0_0) ∧ w'.cell? ⟨gb606, 1, none⟩ = some (.bool false) ∧ w'.cell? ⟨gb606, 2, none⟩ = some (.bool a0_2) ∧ w'.cell? ⟨gb606, 3, none⟩ = some (.int .i64 a0_3) ∧ w'.cell? ⟨gb606, 4, none⟩ = some (.int .u16 a0_4) ∧ w'.cell? ⟨gb606, 5, none⟩ = some (.int .u32 a0_5) ∧ w'.cell? ⟨gb606, 6, none⟩ = some (.int .u32 a0_6) ∧ w'.cell? ⟨gb606, 7, none⟩ = some (.slice A0_7 l0_7.length c0_7) ∧ w'.cell? ⟨gb606, 8, none⟩ = some (.int .u16 a0_8) ∧ w'.cell? ⟨gb606, 9, none⟩ = some (.slice A0_9 l0_9.length c0_9) ∧ w'.cell? ⟨gb606, 10, none⟩ = some (.slice A0_10 l0_10.length c0_10) ∧ w'.cell? ⟨gb606, 11, none⟩ = some (.int .i64 a0_11)) (ds := []) #[false, false, false, false, false, false, false, false, false, false, false] (by kernel_rfl) rfl rfl ⟨(blk_cell BK606.out 0).trans rfl, (blk_cell BK606.out 1).trans rfl, (blk_cell BK606.out 2).trans rfl, (blk_cell BK606.out 3).trans rfl, (blk_cell BK606.out 4).trans rfl, (blk_cell BK606.out 5).trans rfl, (blk_cell BK606.out 6).trans rfl, (blk_cell BK606.out 7).trans rfl, (blk_cell BK606.out 8).trans rfl, (blk_cell BK606.out 9).trans rfl, (blk_cell BK606.out 10).trans rfl, (blk_cell BK606.out 11).trans rfl⟩ (fun hHeld => ?_); refine with_tabW packet_sum.tab1 packet_sum.bits1 (fun HT_ HW_ => ?_)
 generalize w8.drew = w9 at BK606 HB hHeld ⊢
 refine pure_ (i := 0) (N := some 4) (v := ?_) (a' := ?_) #[true, false, false, false, false, false, false, false, false, false, false] rfl rfl (any_of HT_.out (by kernel_rfl)) (fun _ _ _ h => h) (Or.inl ⟨by rfl, ?_⟩) ?_ ?_
 rotate_left
 ·intro w'
  go_simp
  with_reducible rfl
 rotate_left
 ·simp only [Act.put, List.setIfInBounds_toArray, List.set_cons_zero, List.set_cons_succ, i64_w, i32_w]
  rfl
 refine pure_ (i := 3) (N := some 7) (v := ?_) (a' := ?_) #[true, false, false, true, false, false, false, false, false, false, false] rfl rfl (any_of HT_.out (by kernel_rfl)) (fun _ _ _ h => h) (Or.inl ⟨by rfl, ?_⟩) ?_ ?_
 rotate_left
 ·intro w'
  go_simp
  with_reducible rfl
 rotate_left
 ·simp only [Act.put, List.setIfInBounds_toArray, List.set_cons_zero, List.set_cons_succ, i64_w, i32_w]
  rfl
 refine pure_ (i := 7) (N := some 11) (v := ?_) (a' := ?_) #[true, false, false, true, false, false, false, true, false, false, false] rfl rfl (any_of HT_.out (by kernel_rfl)) (fun _ _ _ h => h) (Or.inl ⟨by rfl, ?_⟩) ?_ ?_
 rotate_left
 ·intro w'
  go_simp
  with_reducible rfl
 rotate_left
 ·simp only [Act.put, List.setIfInBounds_toArray, List.set_cons_zero, List.set_cons_succ, i64_w, i32_w]
  rfl
 refine take_ (i := 1) (N := some 5) (v := ?_) (a' := ?_) #[true, true, false, true, false, false, false, true, false, false, false] rfl rfl (take_ofW HT_.out HW_.out (by kernel_rfl)) (fun _ _ _ h => h) (Or.inl ⟨by rfl, ?_⟩) hHeld ?_ ?_
 rotate_left
 ·rintro w' ⟨s0, s1, s2, s3, s4, s5, s6, s7, s8, s9, s10, s11⟩
  go_simp
  with_reducible rfl
 rotate_left
 ·simp only [Act.put, List.setIfInBounds_toArray, List.set_cons_zero, List.set_cons_succ, i64_w, i32_w]
  rfl
 refine take_ (i := 4) (N := some 8) (v := ?_) (a' := ?_) #[true, true, false, true, true, false, false, true, false, false, false] rfl rfl (take_ofW HT_.out HW_.out (by kernel_rfl)) (fun _ _ _ h => h) (Or.inl ⟨by rfl, ?_⟩) hHeld ?_ ?_
 rotate_left
 ·rintro w' ⟨s0, s1, s2, s3, s4, s5, s6, s7, s8, s9, s10, s11⟩
  go_simp
  with_reducible rfl
 rotate_left
 ·simp only [Act.put, List.setIfInBounds_toArray, List.set_cons_zero, List.set_cons_succ, i64_w, i32_w]
  rfl
 refine pure_ (i := 5) (N := some 9) (v := ?_) (a' := ?_) #[true, true, false, true, true, true, false, true, false, false, false] rfl rfl (any_of HT_.out (by kernel_rfl)) (fun _ _ _ h => h) (Or.inl ⟨by rfl, ?_⟩) ?_ ?_
 rotate_left
 ·intro w'
  go_simp
  with_reducible rfl
 rotate_left
 ·simp only [Act.put, List.setIfInBounds_toArray, List.set_cons_zero, List.set_cons_succ, i64_w, i32_w]
  rfl
 refine take_ (i := 8) (N := some 12) (v := ?_) (a' := ?_) #[true, true, false, true, true, true, false, true, true, false, false] rfl rfl (take_ofW HT_.out HW_.out (by kernel_rfl)) (fun _ _ _ h => h) (Or.inl ⟨by rfl, ?_⟩) hHeld ?_ ?_
 rotate_left
 ·rintro w' ⟨s0, s1, s2, s3, s4, s5, s6, s7, s8, s9, s10, s11⟩
  go_simp
  with_reducible rfl
 rotate_left
 ·simp only [Act.put, List.setIfInBounds_toArray, List.set_cons_zero, List.set_cons_succ, i64_w, i32_w]
  rfl
 refine one_ (i := 2) (N := some 6) #[true, true, true, true, true, true, false, true, true, false, false] rfl rfl (one_of HT_.out (by kernel_rfl)) (by decide) (fun K hK => ?_)
 refine goes_ Try.func51 (by kernel_rfl) rfl #[.agg #[.bool a0_0, .bool false, .bool a0_2, .int .i64 a0_3, .int .u16 a0_4, .int .u32 a0_5, .int .u32 a0_6, .slice A0_7 l0_7.length c0_7]] (by rfl) rfl rfl (by (try simp only [List.map_toArray, List.map_cons, List.map_nil]); first | done | rfl | (simp only [List.length_drop, List.length_take]; rfl)) ?_
 with_reducible refine (head_Size.calls a0_0 false a0_2 a0_3 a0_4 a0_5 a0_6 _ _ l0_7 t607 _ ?side1 ?side2 A2.out).mono ?_
 (case side1 => exact cbE HR0_7 HB)
 (case side2 => exact HC0_7.out)
 rintro e w10 ⟨rfl, hb⟩
 refine ⟨_, rfl, ?_⟩
 replace BK606 := bbE BK606 hb
 replace HB := bstE HB hb
 (try clear hb)
 (try clear hb2)
 (try clear hk)
 (try clear hi)
 refine hK.out _ _ ⟨(blk_cell BK606.out 0).trans rfl, (blk_cell BK606.out 1).trans rfl, (blk_cell BK606.out 2).trans rfl, (blk_cell BK606.out 3).trans rfl, (blk_cell BK606.out 4).trans rfl, (blk_cell BK606.out 5).trans rfl, (blk_cell BK606.out 6).trans rfl, (blk_cell BK606.out 7).trans rfl, (blk_cell BK606.out 8).trans rfl, (blk_cell BK606.out 9).trans rfl, (blk_cell BK606.out 10).trans rfl, (blk_cell BK606.out 11).trans rfl⟩ (fun hHeld => ?_)
 clear hK K
 refine norm_ (a' := ?_) ?_ ?_
 rotate_left
 ·show Act.put _ (some 6) _ = _
  simp only [Act.put, List.setIfInBounds_toArray, List.set_cons_zero, List.set_cons_succ, i64_w, i32_w]
  rfl
 refine pure_ (i := 6) (N := some 10) (v := ?_) (a' := ?_) #[true, true, true, true, true, true, true, true, true, false, false] rfl rfl (any_of HT_.out (by kernel_rfl)) (fun _ _ _ h => h) (Or.inl ⟨by rfl, ?_⟩) ?_ ?_
 rotate_left
 ·intro w'
  go_simp
  with_reducible rfl
 rotate_left
 ·simp only [Act.put, List.setIfInBounds_toArray, List.set_cons_zero, List.set_cons_succ, i64_w, i32_w]
  rfl
 refine pure_ (i := 9) (N := some 13) (v := ?_) (a' := ?_) #[true, true, true, true, true, true, true, true, true, true, false] rfl rfl (any_of HT_.out (by kernel_rfl)) (fun _ _ _ h => h) (Or.inl ⟨by rfl, ?_⟩) ?_ ?_
 rotate_left
 ·intro w'
  go_simp
  with_reducible rfl
 rotate_left
 ·simp only [Act.put, List.setIfInBounds_toArray, List.set_cons_zero, List.set_cons_succ, i64_w, i32_w]
  rfl
 refine pure_ (i := 10) (N := some 3) (v := ?_) (a' := ?_) #[true, true, true, true, true, true, true, true, true, true, true] rfl rfl (any_of HT_.out (by kernel_rfl)) (fun _ _ _ h => h) (Or.inl ⟨by rfl, ?_⟩) ?_ ?_
 rotate_left
 ·intro w'
  go_simp
  with_reducible rfl
 rotate_left
 ·simp only [Act.put, List.setIfInBounds_toArray, List.set_cons_zero, List.set_cons_succ, i64_w, i32_w]
  rfl
 refine done_ (done_of HT_.out (by kernel_rfl)) ?_
 obtain ⟨Z11_0, Z11_1, Z11_2, Z11_3, Z11_4, Z11_5, Z11_6, Z11_7, Z11_8, Z11_9, Z11_10, Z11_11, Y11_0, Y11_1, Y11_2, Y11_3, Y11_4, Y11_5, Y11_6, Y11_7, Y11_8, Y11_9, Y11_10, Y11_11⟩ := bc12 BK606.out
 try go_wp2
 go_ret
 exact ⟨by first | rfl | (simp [errW_none, errW_some] <;> rfl) | (simp [*, errW_none, errW_some] <;> rfl), by repeat (first | (with_reducible first | exact HB.out | apply below_alloc | apply pw_below_drewN | apply below_drew1 | refine below_set ?_ GE606.out) | exact HB.out)⟩
end Go.Proofs.Ytcbdgknfkoodoaa.F
