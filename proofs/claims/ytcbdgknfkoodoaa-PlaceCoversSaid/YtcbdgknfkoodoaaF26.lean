/- The walks of the program's functions, written by a program for this claim: each function's call does what its plain Lean function says. No conditions beyond those stated. -/
import Derived.Test.YtcbdgknfkoodoaaF0
import Derived.Test.YtcbdgknfkoodoaaF10
import Derived.Test.YtcbdgknfkoodoaaF12
import Derived.Test.YtcbdgknfkoodoaaF14
import Derived.Test.YtcbdgknfkoodoaaF15
namespace Go.Proofs.Ytcbdgknfkoodoaa.F
open Go.RowKit Go.Proofs.YtcbdgknfkoodoaaW.PrintWords Go.Proofs.YtcbdgknfkoodoaaW.PrintLast Go.Proofs.YtcbdgknfkoodoaaW.PrintMore
attribute [local go_sem] max2_int min2_int max_two min_two max_three min_three max_four min_four   -- for this text's walks alone
set_option linter.unusedVariables false
set_option linter.unusedSimpArgs false

/-! ### crossbarlaw07_PlaceCovers: function 4 -/
def crossbarlaw07_PlaceCovers.l0 : Nat → List Int → List (S32) → Int → Int → Int → Option (Bool)
  | 0, _, _, _, _, _ => none
  | k + 1, x0, x3, x6, x7, x8 => if x8 < (x3.length : Int) then (if 0 ≤ x8 then (if ((rd_T32 x3 x8).f1) = x7 then (if ((rd_T32 x3 x8).f2) < 1 then (none) else (if ((rd_T32 x3 x8).f2) > (wrap64 ((x0.length : Int) - x7)) then (none) else ((place_Owner.f x3 x7).bind fun t521 => (if t521 = ((rd_T32 x3 x8).f0) then (crossbarlaw07_PlaceCovers.l0 k x0 x3 x6 (wrap64 (x7 + ((rd_T32 x3 x8).f2))) (wrap64 (x8 + 1))) else (none))))) else (none)) else (none)) else (if x6 = 0 then (if x7 = (x0.length : Int) then ((place_Owner.f x3 x7).bind fun t524 => (if t524 = (-1) then ((place_Owner.f x3 (-1)).bind fun t525 => (some (t525 == (-1)))) else (none))) else (none)) else (none))
def crossbarlaw07_PlaceCovers.f (k : Nat) (l0 : List Int) : Option (Bool) := (crossbarlaw07_awake.f k).bind fun t493 => (if t493 = true then (if (l0.length : Int) > 70000 then (some true) else ((place_Of.f k l0).bind fun bt494 => ((packet_Read.f k l0).bind fun bt498 => (if bt494.2 = 0 then (crossbarlaw07_PlaceCovers.l0 k l0 bt494.1 bt498.2.2.2.2.2.2.2.2.2.2.2.2 0 0) else (if bt494.2 = bt498.2.2.2.2.2.2.2.2.2.2.2.2 then (some ((bt494.1.length : Int) == 0)) else (none)))))) else (none))
theorem crossbarlaw07_PlaceCovers.mono_l : ∀ k, (∀ y0 y1 y2 y3 y4, LeO (crossbarlaw07_PlaceCovers.l0 k y0 y1 y2 y3 y4) (crossbarlaw07_PlaceCovers.l0 (k + 1) y0 y1 y2 y3 y4))
  | 0 => fun _ _ _ _ _ r h => by simp [crossbarlaw07_PlaceCovers.l0] at h
  | k + 1 => by
    have ih0 := crossbarlaw07_PlaceCovers.mono_l k
    intro y0 y1 y2 y3 y4
    unfold crossbarlaw07_PlaceCovers.l0
    repeat' first
    | (with_reducible exact ih0 _ _ _ _ _)
    | (with_reducible exact crossbarlaw07_awake.mono _)
    | (with_reducible exact packet_Read.mono _ _)
    | (with_reducible exact place_Of.mono _ _)
    | (with_reducible exact LeO.refl _)
    | (with_reducible exact LeO.none _)
    | (with_reducible refine LeO.ite ?_ ?_)
    | (with_reducible refine LeO.bind ?_ (fun _ => ?_))
    | exact ih0 _ _ _ _ _
    | exact crossbarlaw07_awake.mono _
    | exact packet_Read.mono _ _
    | exact place_Of.mono _ _
    | exact LeO.none _
    | refine LeO.ite ?_ ?_
    | refine LeO.bind ?_ (fun _ => ?_)
theorem crossbarlaw07_PlaceCovers.mono : ∀ a0 k, LeO (crossbarlaw07_PlaceCovers.f k a0) (crossbarlaw07_PlaceCovers.f (k + 1) a0) := by
  intro a0 k
  have ih0 := crossbarlaw07_PlaceCovers.mono_l k
  unfold crossbarlaw07_PlaceCovers.f
  repeat' first
      | (with_reducible exact ih0 _ _ _ _ _)
      | (with_reducible exact crossbarlaw07_awake.mono _)
      | (with_reducible exact packet_Read.mono _ _)
      | (with_reducible exact place_Of.mono _ _)
      | (with_reducible exact LeO.refl _)
      | (with_reducible exact LeO.none _)
      | (with_reducible refine LeO.ite ?_ ?_)
      | (with_reducible refine LeO.bind ?_ (fun _ => ?_))
      | exact ih0 _ _ _ _ _
      | exact crossbarlaw07_awake.mono _
      | exact packet_Read.mono _ _
      | exact place_Of.mono _ _
      | exact LeO.none _
      | refine LeO.ite ?_ ?_
      | refine LeO.bind ?_ (fun _ => ?_)
def crossbarlaw07_PlaceCovers.T13 : Bool × List (List Nat × List Nat) := (true, [([], []), ([], []), ([0, 1], [0, 1]), ([2], [2]), ([3], [3]), ([], []), ([4, 5], [4, 5]), ([6], [6]), ([7], [7]), ([7], [7]), ([8, 9, 7], [7, 8, 9]), ([10, 7], [7, 10]), ([11, 7], [7, 11]), ([12, 7], [7, 12]), ([7, 13], [7, 13]), ([14, 7], [14]), ([15], [15]), ([15], [15]), ([16, 17, 15], [15, 16, 17]), ([18, 15], [15, 18]), ([19, 15], [15, 19]), ([15], [15]), ([21, 15], [15, 21]), ([15], [15]), ([22, 23, 15], [15, 22, 23]), ([20, 24, 15], [15, 20, 24]), ([15, 25], [15, 25]), ([26, 15], [26]), ([27], [27]), ([27], [27]), ([28, 29, 27, 27], [27, 28, 29]), ([27], [27]), ([27], [27]), ([31, 32, 27], [27, 31, 32]), ([33, 27], [27, 33]), ([34, 27], [27, 34]), ([30, 35, 27], [27, 30, 35]), ([27, 36], [27, 36])])
def crossbarlaw07_PlaceCovers.B13 : List Nat := [0, 0, 3, 7, 15, 0, 63, 127, 255, 255, 1023, 2047, 4095, 8191, 16383, 32767, 65535, 65535, 262143, 524287, 1048575, 65535, 2162687, 65535, 14745599, 33554431, 67108863, 134217727, 268435455, 268435455, 1073741823, 268435455, 268435455, 6710886399, 15300820991, 32480690175, 68719476735, 137438953471]
theorem crossbarlaw07_PlaceCovers.tab13 : rtab .any (opsOf Try.f4 13) = crossbarlaw07_PlaceCovers.T13 := by kernel_rfl
theorem crossbarlaw07_PlaceCovers.bits13 : waitsOk crossbarlaw07_PlaceCovers.T13.2 crossbarlaw07_PlaceCovers.B13 = true := by kernel_rfl
set_option maxHeartbeats 8000000 in
set_option maxRecDepth 100000 in
theorem crossbarlaw07_PlaceCovers.calls (k : Nat) (A0 : Option Addr) (c0 : Nat) (l0 : List Int) (r : Bool) (w : World) (hr0 : Kd.C (Kd.int .u8) w A0 l0.length l0) (hc0 : l0.length ≤ c0) (h : crossbarlaw07_PlaceCovers.f k l0 = some r) :
    Calls Try.prog 4 #[.slice A0 l0.length c0] w fun e w' => e = .returned (.bool r) ∧ Below w.heap.size w w' := by
  have hu45 := Try.underlying45
  have HR0 := Aside0.mk hr0
  have HC0 := Aside0.mk hc0
  clear hr0 hc0
  have HB := Aside0.mk (Below.refl w.heap.size w)
  have H : ((crossbarlaw07_awake.f k).bind fun t493 => (if t493 = true then (if (l0.length : Int) > 70000 then (some true) else ((place_Of.f k l0).bind fun bt494 => ((packet_Read.f k l0).bind fun bt498 => (if bt494.2 = 0 then (crossbarlaw07_PlaceCovers.l0 k l0 bt494.1 bt498.2.2.2.2.2.2.2.2.2.2.2.2 0 0) else (if bt494.2 = bt498.2.2.2.2.2.2.2.2.2.2.2.2 then (some ((bt494.1.length : Int) == 0)) else (none)))))) else (none))) = some r := h
  clear h
  replace H := Option.bind_eq_some_iff.mp H
  obtain ⟨t493, A20, H⟩ := H
  replace H : (if t493 = true then (if (l0.length : Int) > 70000 then (some true) else ((place_Of.f k l0).bind fun bt494 => ((packet_Read.f k l0).bind fun bt498 => (if bt494.2 = 0 then (crossbarlaw07_PlaceCovers.l0 k l0 bt494.1 bt498.2.2.2.2.2.2.2.2.2.2.2.2 0 0) else (if bt494.2 = bt498.2.2.2.2.2.2.2.2.2.2.2.2 then (some ((bt494.1.length : Int) == 0)) else (none)))))) else (none)) = some r := H
  have A2 := Aside0.mk A20
  clear A20
  by_cases c3 : t493 = true
  · subst c3
    have H1 : (if (l0.length : Int) > 70000 then (some true) else ((place_Of.f k l0).bind fun bt494 => ((packet_Read.f k l0).bind fun bt498 => (if bt494.2 = 0 then (crossbarlaw07_PlaceCovers.l0 k l0 bt494.1 bt498.2.2.2.2.2.2.2.2.2.2.2.2 0 0) else (if bt494.2 = bt498.2.2.2.2.2.2.2.2.2.2.2.2 then (some ((bt494.1.length : Int) == 0)) else (none)))))) = some r := by rw [if_pos rfl] at H; exact H
    clear H
    have H := H1
    clear H1
    by_cases c4 : (l0.length : Int) > 70000
    · rw [if_pos c4] at H
      have c4b0 : decide (70000 < (l0.length : Int)) = true := decide_eq_true c4
      have c4b1 : decide (70000 < l0.length) = true := decide_eq_true (by omega)
      clear c4
      obtain rfl := Option.some.inj H
      go_enter Try.func4, Try.ntmps4
      go_wp2_with (first | ((with_reducible refine gate_callee (f := 9) rfl ?_); refine goesL_ (some 9) rfl rfl Try.func9 (by kernel_rfl) rfl #[] rfl (by (try simp only [List.map_toArray, List.map_cons, List.map_nil]); first | done | rfl | (simp only [List.length_drop, List.length_take]; rfl)) ?_; (with_reducible refine (crossbarlaw07_awake.calls k  true _ A2.out).mono ?_); rintro e w5 ⟨rfl, hb⟩; refine ⟨_, rfl, ?_⟩; have n0_ := Aside0.mk (below_step (by repeat (first | (with_reducible first | exact HB.out | apply below_alloc | apply pw_below_drewN | apply below_drew1) | exact HB.out)) hb); clear HB; have HB := n0_; clear n0_; (try clear hb); (try clear hb2); (try clear hk); (try clear hi)))
      go_ret
      exact ⟨by first | rfl | (simp [errW_none, errW_some] <;> rfl) | (simp [*, errW_none, errW_some] <;> rfl), by repeat (first | (with_reducible first | exact HB.out | apply below_alloc | apply pw_below_drewN | apply below_drew1) | exact HB.out)⟩
    rw [if_neg c4] at H
    have c4b0 : decide (70000 < (l0.length : Int)) = false := decide_eq_false c4
    have c4b1 : decide (70000 < l0.length) = false := decide_eq_false (by omega)
    clear c4
    replace H := Option.bind_eq_some_iff.mp H
    obtain ⟨⟨t494, t495⟩, A60, H⟩ := H
    replace H : ((packet_Read.f k l0).bind fun bt498 => (if t495 = 0 then (crossbarlaw07_PlaceCovers.l0 k l0 t494 bt498.2.2.2.2.2.2.2.2.2.2.2.2 0 0) else (if t495 = bt498.2.2.2.2.2.2.2.2.2.2.2.2 then (some ((t494.length : Int) == 0)) else (none)))) = some r := H
    have A6 := Aside0.mk A60
    clear A60
    replace H := Option.bind_eq_some_iff.mp H
    obtain ⟨⟨t498, t499, t500, t501, t502, t503, t504, t505, t508, t509, t512, t515, t516⟩, A70, H⟩ := H
    replace H : (if t495 = 0 then (crossbarlaw07_PlaceCovers.l0 k l0 t494 t516 0 0) else (if t495 = t516 then (some ((t494.length : Int) == 0)) else (none))) = some r := H
    have A7 := Aside0.mk A70
    clear A70
    by_cases c8 : t495 = 0
    · rw [if_pos c8] at H
      have c8b0 : (t495 == 0) = true := beq_iff_eq.mpr c8
      have c8b1 : (t495 != 0) = false := bne_eq_false_iff_eq.mpr c8
      clear c8
      have H' := Aside0.mk H
      clear H
      go_enter Try.func4, Try.ntmps4
      go_wp2_with (first | ((with_reducible refine gate_callee (f := 9) rfl ?_); refine goesL_ (some 9) rfl rfl Try.func9 (by kernel_rfl) rfl #[] rfl (by (try simp only [List.map_toArray, List.map_cons, List.map_nil]); first | done | rfl | (simp only [List.length_drop, List.length_take]; rfl)) ?_; (with_reducible refine (crossbarlaw07_awake.calls k  true _ A2.out).mono ?_); rintro e w9 ⟨rfl, hb⟩; refine ⟨_, rfl, ?_⟩; have n0_ := Aside0.mk (below_step (by repeat (first | (with_reducible first | exact HB.out | apply below_alloc | apply pw_below_drewN | apply below_drew1) | exact HB.out)) hb); clear HB; have HB := n0_; clear n0_; (try clear hb); (try clear hb2); (try clear hk); (try clear hi)) | ((with_reducible refine gate_callee (f := 10) rfl ?_); refine goesL_ (some 16) rfl rfl Try.func10 (by kernel_rfl) rfl #[.slice A0 l0.length c0] rfl (by (try simp only [List.map_toArray, List.map_cons, List.map_nil]); first | done | rfl | (simp only [List.length_drop, List.length_take]; rfl)) ?_; (with_reducible refine (place_Of.calls k _ _ l0 t494 t495 _ ?side1 ?side2 A6.out).mono ?_); (case side1 => repeat (first | exact (Kd.C_below HR0.out HB.out) | (with_reducible refine Kd.C_alloc ?_ _) | (with_reducible refine Kd.C_drewN ?_ _) | (with_reducible refine Kd.C_drew ?_))); (case side2 => exact HC0.out); rintro e w10 ⟨v496, rfl, ho0, hb⟩; refine ⟨_, rfl, ?_⟩; have n0_ := Aside0.mk (Kd.R_lower ho0 (below_size (by repeat (first | (with_reducible first | exact HB.out | apply below_alloc | apply pw_below_drewN | apply below_drew1) | exact HB.out)))); have n1_ := Aside0.mk (below_step (by repeat (first | (with_reducible first | exact HB.out | apply below_alloc | apply pw_below_drewN | apply below_drew1) | exact HB.out)) hb); clear HB; have HO497 := n0_; have HB := n1_; clear n0_ n1_; (try clear hb); (try clear hb2); (try clear hk); (try clear hi); (try clear ho0)) | ((with_reducible refine gate_callee (f := 17) rfl ?_); refine goesL_ (some 21) rfl rfl Try.func17 (by kernel_rfl) rfl #[.slice A0 l0.length c0] rfl (by (try simp only [List.map_toArray, List.map_cons, List.map_nil]); first | done | rfl | (simp only [List.length_drop, List.length_take]; rfl)) ?_; (with_reducible refine (packet_Read.calls k _ _ l0 t498 t499 t500 t501 t502 t503 t504 t505 t508 t509 t512 t515 t516 _ ?side1 ?side2 A7.out).mono ?_); (case side1 => repeat (first | exact (Kd.C_below HR0.out HB.out) | (with_reducible refine Kd.C_alloc ?_ _) | (with_reducible refine Kd.C_drewN ?_ _) | (with_reducible refine Kd.C_drew ?_))); (case side2 => exact HC0.out); rintro e w11 ⟨v506, v510, v513, rfl, ho0, ho1, ho2, hb⟩; refine ⟨_, rfl, ?_⟩; have n0_ := Aside0.mk (Kd.R_below (by (with_reducible repeat (first | apply Kd.R_alloc | apply Kd.R_drewN | apply Kd.R_drew)); exact HO497.out) hb); have n1_ := Aside0.mk (Kd.R_lower ho0 (below_size (by repeat (first | (with_reducible first | exact HB.out | apply below_alloc | apply pw_below_drewN | apply below_drew1) | exact HB.out)))); have n2_ := Aside0.mk (Kd.R_lower ho1 (below_size (by repeat (first | (with_reducible first | exact HB.out | apply below_alloc | apply pw_below_drewN | apply below_drew1) | exact HB.out)))); have n3_ := Aside0.mk (Kd.R_lower ho2 (below_size (by repeat (first | (with_reducible first | exact HB.out | apply below_alloc | apply pw_below_drewN | apply below_drew1) | exact HB.out)))); have n4_ := Aside0.mk (below_step (by repeat (first | (with_reducible first | exact HB.out | apply below_alloc | apply pw_below_drewN | apply below_drew1) | exact HB.out)) hb); clear HO497; clear HB; have HO497 := n0_; have HO507 := n1_; have HO511 := n2_; have HO514 := n3_; have HB := n4_; clear n0_ n1_ n2_ n3_ n4_; (try clear hb); (try clear hb2); (try clear hk); (try clear hi); (try clear ho0); (try clear ho1); (try clear ho2)) | ((with_reducible refine gate_dst (N := 5) rfl ?_); (try (refine gate_guard (by rfl) ?_; dsimp only)); refine box_event ?hg (N := 5) ?hd (cs := #[.bool false, .bool false, .bool false, .int .i64 0, .int .u16 0, .int .u32 0, .int .u32 0, .slice none 0 0, .int .u16 0, .slice none 0 0, .slice none 0 0, .int .i64 0]) (t := 45) ?hr ?_; (case hd => rfl); (case hg => rfl); (case hr => first | (go_simp; done) | (go_simp; rfl)); intro gb517 hg w12 hbox hb; have n0_ := Aside0.mk (Kd.R_below (by (with_reducible repeat (first | apply Kd.R_alloc | apply Kd.R_drewN | apply Kd.R_drew)); exact HO497.out) hb); have n1_ := Aside0.mk (Kd.R_below (by (with_reducible repeat (first | apply Kd.R_alloc | apply Kd.R_drewN | apply Kd.R_drew)); exact HO507.out) hb); have n2_ := Aside0.mk (Kd.R_below (by (with_reducible repeat (first | apply Kd.R_alloc | apply Kd.R_drewN | apply Kd.R_drew)); exact HO511.out) hb); have n3_ := Aside0.mk (Kd.R_below (by (with_reducible repeat (first | apply Kd.R_alloc | apply Kd.R_drewN | apply Kd.R_drew)); exact HO514.out) hb); have n4_ := Aside0.mk (below_step (by repeat (first | (with_reducible first | exact HB.out | apply below_alloc | apply pw_below_drewN | apply below_drew1) | exact HB.out)) hb); have n5_ := Aside0.mk (hbox); have n6_ := Aside0.mk ((by rw [hg]; exact (below_size (by repeat (first | (with_reducible first | exact HB.out | apply below_alloc | apply pw_below_drewN | apply below_drew1) | exact HB.out))) : w.heap.size ≤ gb517)); have n7_ := Aside0.mk ((by rw [hg]; exact (below_size (by repeat (first | (with_reducible first | exact HB.out | apply below_alloc | apply pw_below_drewN | apply below_drew1) | exact HB.out))) : w.heap.size ≤ gb517)); clear HO497; clear HO507; clear HO511; clear HO514; clear HB; have HO497 := n0_; have HO507 := n1_; have HO511 := n2_; have HO514 := n3_; have HB := n4_; have BK517 := n5_; have GW517 := n6_; have GE517 := n7_; clear n0_ n1_ n2_ n3_ n4_ n5_ n6_ n7_; clear hb hbox hg; obtain ⟨hcz13_0, hcz13_1, hcz13_2, hcz13_3, hcz13_4, hcz13_5, hcz13_6, hcz13_7, hcz13_8, hcz13_9, hcz13_10, hcz13_11, hfz13_0, hfz13_1, hfz13_2, hfz13_3, hfz13_4, hfz13_5, hfz13_6, hfz13_7, hfz13_8, hfz13_9, hfz13_10, hfz13_11⟩ := bc12 BK517.out; obtain ⟨Ao14, co14, eo14⟩ := Kd.R_slice HO507.out; subst eo14; obtain ⟨Ao15, co15, eo15⟩ := Kd.R_slice HO511.out; subst eo15; obtain ⟨Ao16, co16, eo16⟩ := Kd.R_slice HO514.out; subst eo16) | ((with_reducible refine gate_store (t := 45) (p := 5) rfl ?_); refine store_event (t := 45) (p := 5) (v := ?vo_w17) (w1 := ((((((((((((w12.setCell ⟨gb517, 0, none⟩ (.bool t498)).setCell ⟨gb517, 1, none⟩ (.bool t499)).setCell ⟨gb517, 2, none⟩ (.bool t500)).setCell ⟨gb517, 3, none⟩ (.int .i64 t501)).setCell ⟨gb517, 4, none⟩ (.int .u16 t502)).setCell ⟨gb517, 5, none⟩ (.int .u32 t503)).setCell ⟨gb517, 6, none⟩ (.int .u32 t504)).setCell ⟨gb517, 7, none⟩ (.slice Ao14 t505.length co14)).setCell ⟨gb517, 8, none⟩ (.int .u16 t508)).setCell ⟨gb517, 9, none⟩ (.slice Ao15 t509.length co15)).setCell ⟨gb517, 10, none⟩ (.slice Ao16 t512.length co16)).setCell ⟨gb517, 11, none⟩ (.int .i64 t515))) ?hg ?ho ?hn ?hr ?_; (case ho => rfl); (case hg => rfl); (case hn => rfl); (case hr => first | (go_simp; done) | (go_simp; rfl)); intro w17 hw; have n0_ : Aside0 (Kd.R k32 32 w17 w.heap.size (fun _ => True) v496 t494) := ⟨(by rw [hw]; exact (by (with_reducible repeat (first | apply Kd.R_alloc | apply Kd.R_drewN | apply Kd.R_drew)); exact Kd.R_mono (Kd.R_far (p := ⟨gb517, 11, none⟩) (Kd.R_far (p := ⟨gb517, 10, none⟩) (Kd.R_far (p := ⟨gb517, 9, none⟩) (Kd.R_far (p := ⟨gb517, 8, none⟩) (Kd.R_far (p := ⟨gb517, 7, none⟩) (Kd.R_far (p := ⟨gb517, 6, none⟩) (Kd.R_far (p := ⟨gb517, 5, none⟩) (Kd.R_far (p := ⟨gb517, 4, none⟩) (Kd.R_far (p := ⟨gb517, 3, none⟩) (Kd.R_far (p := ⟨gb517, 2, none⟩) (Kd.R_far (p := ⟨gb517, 1, none⟩) (Kd.R_far (p := ⟨gb517, 0, none⟩) (Kd.R_types HO497.out BK517.out (by decide)) (fun _ hk => hk.2) (.bool t498)) (fun _ hk => hk.2) (.bool t499)) (fun _ hk => hk.2) (.bool t500)) (fun _ hk => hk.2) (.int .i64 t501)) (fun _ hk => hk.2) (.int .u16 t502)) (fun _ hk => hk.2) (.int .u32 t503)) (fun _ hk => hk.2) (.int .u32 t504)) (fun _ hk => hk.2) (.slice Ao14 t505.length co14)) (fun _ hk => hk.2) (.int .u16 t508)) (fun _ hk => hk.2) (.slice Ao15 t509.length co15)) (fun _ hk => hk.2) (.slice Ao16 t512.length co16)) (fun _ hk => hk.2) (.int .i64 t515)) (fun _ hk => trivial)))⟩; have n1_ : Aside0 (Kd.R (Kd.int .u32) 40 w17 w.heap.size (fun _ => True) (.slice Ao14 t505.length co14) t505) := ⟨(by rw [hw]; exact (by (with_reducible repeat (first | apply Kd.R_alloc | apply Kd.R_drewN | apply Kd.R_drew)); exact Kd.R_mono (Kd.R_far (p := ⟨gb517, 11, none⟩) (Kd.R_far (p := ⟨gb517, 10, none⟩) (Kd.R_far (p := ⟨gb517, 9, none⟩) (Kd.R_far (p := ⟨gb517, 8, none⟩) (Kd.R_far (p := ⟨gb517, 7, none⟩) (Kd.R_far (p := ⟨gb517, 6, none⟩) (Kd.R_far (p := ⟨gb517, 5, none⟩) (Kd.R_far (p := ⟨gb517, 4, none⟩) (Kd.R_far (p := ⟨gb517, 3, none⟩) (Kd.R_far (p := ⟨gb517, 2, none⟩) (Kd.R_far (p := ⟨gb517, 1, none⟩) (Kd.R_far (p := ⟨gb517, 0, none⟩) (Kd.R_types HO507.out BK517.out (by decide)) (fun _ hk => hk.2) (.bool t498)) (fun _ hk => hk.2) (.bool t499)) (fun _ hk => hk.2) (.bool t500)) (fun _ hk => hk.2) (.int .i64 t501)) (fun _ hk => hk.2) (.int .u16 t502)) (fun _ hk => hk.2) (.int .u32 t503)) (fun _ hk => hk.2) (.int .u32 t504)) (fun _ hk => hk.2) (.slice Ao14 t505.length co14)) (fun _ hk => hk.2) (.int .u16 t508)) (fun _ hk => hk.2) (.slice Ao15 t509.length co15)) (fun _ hk => hk.2) (.slice Ao16 t512.length co16)) (fun _ hk => hk.2) (.int .i64 t515)) (fun _ hk => trivial)))⟩; have n2_ : Aside0 (Kd.R (Kd.int .u8) 5 w17 w.heap.size (fun k_ => some k_ ≠ (.slice Ao16 t512.length co16 : Value).ownBlock) (.slice Ao15 t509.length co15) t509) := ⟨(by rw [hw]; exact (by (with_reducible repeat (first | apply Kd.R_alloc | apply Kd.R_drewN | apply Kd.R_drew)); exact Kd.R_mono (Kd.R_far (p := ⟨gb517, 11, none⟩) (Kd.R_far (p := ⟨gb517, 10, none⟩) (Kd.R_far (p := ⟨gb517, 9, none⟩) (Kd.R_far (p := ⟨gb517, 8, none⟩) (Kd.R_far (p := ⟨gb517, 7, none⟩) (Kd.R_far (p := ⟨gb517, 6, none⟩) (Kd.R_far (p := ⟨gb517, 5, none⟩) (Kd.R_far (p := ⟨gb517, 4, none⟩) (Kd.R_far (p := ⟨gb517, 3, none⟩) (Kd.R_far (p := ⟨gb517, 2, none⟩) (Kd.R_far (p := ⟨gb517, 1, none⟩) (Kd.R_far (p := ⟨gb517, 0, none⟩) (Kd.R_types HO511.out BK517.out (by decide)) (fun _ hk => hk.2) (.bool t498)) (fun _ hk => hk.2) (.bool t499)) (fun _ hk => hk.2) (.bool t500)) (fun _ hk => hk.2) (.int .i64 t501)) (fun _ hk => hk.2) (.int .u16 t502)) (fun _ hk => hk.2) (.int .u32 t503)) (fun _ hk => hk.2) (.int .u32 t504)) (fun _ hk => hk.2) (.slice Ao14 t505.length co14)) (fun _ hk => hk.2) (.int .u16 t508)) (fun _ hk => hk.2) (.slice Ao15 t509.length co15)) (fun _ hk => hk.2) (.slice Ao16 t512.length co16)) (fun _ hk => hk.2) (.int .i64 t515)) (fun _ hk => hk.1)))⟩; have n3_ : Aside0 (Kd.R (Kd.int .u8) 5 w17 w.heap.size (fun k_ => some k_ ≠ (.slice Ao15 t509.length co15 : Value).ownBlock) (.slice Ao16 t512.length co16) t512) := ⟨(by rw [hw]; exact (by (with_reducible repeat (first | apply Kd.R_alloc | apply Kd.R_drewN | apply Kd.R_drew)); exact Kd.R_mono (Kd.R_far (p := ⟨gb517, 11, none⟩) (Kd.R_far (p := ⟨gb517, 10, none⟩) (Kd.R_far (p := ⟨gb517, 9, none⟩) (Kd.R_far (p := ⟨gb517, 8, none⟩) (Kd.R_far (p := ⟨gb517, 7, none⟩) (Kd.R_far (p := ⟨gb517, 6, none⟩) (Kd.R_far (p := ⟨gb517, 5, none⟩) (Kd.R_far (p := ⟨gb517, 4, none⟩) (Kd.R_far (p := ⟨gb517, 3, none⟩) (Kd.R_far (p := ⟨gb517, 2, none⟩) (Kd.R_far (p := ⟨gb517, 1, none⟩) (Kd.R_far (p := ⟨gb517, 0, none⟩) (Kd.R_types HO514.out BK517.out (by decide)) (fun _ hk => hk.2) (.bool t498)) (fun _ hk => hk.2) (.bool t499)) (fun _ hk => hk.2) (.bool t500)) (fun _ hk => hk.2) (.int .i64 t501)) (fun _ hk => hk.2) (.int .u16 t502)) (fun _ hk => hk.2) (.int .u32 t503)) (fun _ hk => hk.2) (.int .u32 t504)) (fun _ hk => hk.2) (.slice Ao14 t505.length co14)) (fun _ hk => hk.2) (.int .u16 t508)) (fun _ hk => hk.2) (.slice Ao15 t509.length co15)) (fun _ hk => hk.2) (.slice Ao16 t512.length co16)) (fun _ hk => hk.2) (.int .i64 t515)) (fun _ hk => hk.1)))⟩; have n4_ : Aside0 (w17.heap[gb517]? = some (.cells #[.bool t498, .bool t499, .bool t500, .int .i64 t501, .int .u16 t502, .int .u32 t503, .int .u32 t504, .slice Ao14 t505.length co14, .int .u16 t508, .slice Ao15 t509.length co15, .slice Ao16 t512.length co16, .int .i64 t515] 45 (0, 0))) := ⟨(by rw [hw]; exact (by (with_reducible repeat (first | refine blk_drewN ?_ _ | refine blk_drew ?_ | refine blk_alloc ?_ _)); apply puts12; (with_reducible repeat (first | refine blk_drewN ?_ _ | refine blk_drew ?_ | refine blk_alloc ?_ _)); exact BK517.out))⟩; have n5_ : Aside0 (Below w.heap.size w w17) := ⟨(by rw [hw]; exact (by repeat (first | (with_reducible first | exact HB.out | apply below_alloc | apply pw_below_drewN | apply below_drew1 | refine below_set ?_ GE517.out) | exact HB.out)))⟩; clear hw; clear HO497; clear HO507; clear HO511; clear HO514; clear BK517; clear HB; have HO497 := n0_; have HO507 := n1_; have HO511 := n2_; have HO514 := n3_; have BK517 := n4_; have HB := n5_; clear n0_ n1_ n2_ n3_ n4_ n5_))
      go_loopg [7, 8] k (fun kq v7 v8 w' => ∃ (x7_1 : Int) (x8_1 : Int), v7 = .int .i64 x7_1 ∧ v8 = .int .i64 x8_1 ∧ Aside0 (crossbarlaw07_PlaceCovers.l0 kq l0 t494 t516 x7_1 x8_1 = some r) ∧ Aside0 (kq ≤ k) ∧ Aside0 (Kd.R k32 32 w' w.heap.size (fun _ => True) v496 t494) ∧ Aside0 (Kd.R (Kd.int .u32) 40 w' w.heap.size (fun _ => True) (.slice Ao14 t505.length co14) t505) ∧ Aside0 (Kd.R (Kd.int .u8) 5 w' w.heap.size (fun k_ => some k_ ≠ ((.slice Ao16 t512.length co16) : Value).ownBlock) (.slice Ao15 t509.length co15) t509) ∧ Aside0 (Kd.R (Kd.int .u8) 5 w' w.heap.size (fun k_ => some k_ ≠ ((.slice Ao15 t509.length co15) : Value).ownBlock) (.slice Ao16 t512.length co16) t512) ∧ Aside0 (w'.heap[gb517]? = some (.cells #[.bool t498, .bool t499, .bool t500, .int .i64 t501, .int .u16 t502, .int .u32 t503, .int .u32 t504, (.slice Ao14 t505.length co14), .int .u16 t508, (.slice Ao15 t509.length co15), (.slice Ao16 t512.length co16), .int .i64 t515] 45 (0, 0))) ∧ Aside0 (Below w.heap.size w w'))
      case atStart => exact ⟨(0), (0), (by first | rfl | (simp; done) | (simp [*]; done)), (by first | rfl | (simp; done) | (simp [*]; done)), H', ⟨Nat.le_refl _⟩, ⟨by (with_reducible repeat (first | apply Kd.R_alloc | apply Kd.R_drewN | apply Kd.R_drew)); exact HO497.out⟩, ⟨by (with_reducible repeat (first | apply Kd.R_alloc | apply Kd.R_drewN | apply Kd.R_drew)); exact HO507.out⟩, ⟨by (with_reducible repeat (first | apply Kd.R_alloc | apply Kd.R_drewN | apply Kd.R_drew)); exact HO511.out⟩, ⟨by (with_reducible repeat (first | apply Kd.R_alloc | apply Kd.R_drewN | apply Kd.R_drew)); exact HO514.out⟩, ⟨by (with_reducible repeat (first | refine blk_drewN ?_ _ | refine blk_drew ?_ | refine blk_alloc ?_ _)); exact BK517.out⟩, ⟨by repeat (first | (with_reducible first | exact HB.out | apply below_alloc | apply pw_below_drewN | apply below_drew1 | refine below_set ?_ GE517.out) | exact HB.out)⟩⟩
      case round =>
        clear H'
        try clear c1
        try clear p2
        try clear c3
        try clear c4
        try clear c4b0
        try clear c4b1
        try clear c8
        try clear c8b0
        try clear c8b1
        try clear c9
        try clear c10
        try clear c17
        try clear hcz13_0
        try clear hcz13_1
        try clear hcz13_10
        try clear hcz13_11
        try clear hcz13_2
        try clear hcz13_3
        try clear hcz13_4
        try clear hcz13_5
        try clear hcz13_6
        try clear hcz13_7
        try clear hcz13_8
        try clear hcz13_9
        try clear hfz13_0
        try clear hfz13_1
        try clear hfz13_10
        try clear hfz13_11
        try clear hfz13_2
        try clear hfz13_3
        try clear hfz13_4
        try clear hfz13_5
        try clear hfz13_6
        try clear hfz13_7
        try clear hfz13_8
        try clear hfz13_9
        obtain ⟨x7_1, x8_1, rfl, rfl, HA, HK1, HO_3, HO_518007, HO_518009, HO_518010, BK517, HB⟩ := hrel
        cases gk with
        | zero => exact absurd HA.out (by simp [crossbarlaw07_PlaceCovers.l0])
        | succ k1 =>
          have H := HA.out
          clear HA
          simp only [crossbarlaw07_PlaceCovers.l0] at H
          by_cases c18 : x8_1 < (t494.length : Int)
          · rw [if_pos c18] at H
            have c18b0 : decide (x8_1 < (t494.length : Int)) = true := decide_eq_true c18
            clear c18
            by_cases c19 : 0 ≤ x8_1
            · rw [if_pos c19] at H
              have c19b0 : decide (0 ≤ x8_1) = true := decide_eq_true c19
              clear c19
              by_cases c20 : ((rd_T32 t494 x8_1).f1) = x7_1
              · rw [if_pos c20] at H
                have c20b0 : (((rd_T32 t494 x8_1).f1) == x7_1) = true := beq_iff_eq.mpr c20
                have c20b1 : (((rd_T32 t494 x8_1).f1) != x7_1) = false := bne_eq_false_iff_eq.mpr c20
                clear c20
                by_cases c21 : ((rd_T32 t494 x8_1).f2) < 1
                · rw [if_pos c21] at H
                  have c21b0 : decide (((rd_T32 t494 x8_1).f2) < 1) = true := decide_eq_true c21
                  clear c21
                  exact absurd H (by simp)
                rw [if_neg c21] at H
                have c21b0 : decide (((rd_T32 t494 x8_1).f2) < 1) = false := decide_eq_false c21
                clear c21
                by_cases c22 : ((rd_T32 t494 x8_1).f2) > (wrap64 ((l0.length : Int) - x7_1))
                · rw [if_pos c22] at H
                  have c22b0 : decide ((wrap64 ((l0.length : Int) - x7_1)) < ((rd_T32 t494 x8_1).f2)) = true := decide_eq_true c22
                  clear c22
                  exact absurd H (by simp)
                rw [if_neg c22] at H
                have c22b0 : decide ((wrap64 ((l0.length : Int) - x7_1)) < ((rd_T32 t494 x8_1).f2)) = false := decide_eq_false c22
                clear c22
                replace H := Option.bind_eq_some_iff.mp H
                obtain ⟨t521, A230, H⟩ := H
                replace H : (if t521 = ((rd_T32 t494 x8_1).f0) then (crossbarlaw07_PlaceCovers.l0 k1 l0 t494 t516 (wrap64 (x7_1 + ((rd_T32 t494 x8_1).f2))) (wrap64 (x8_1 + 1))) else (none)) = some r := H
                have A23 := Aside0.mk A230
                clear A230
                by_cases c24 : t521 = ((rd_T32 t494 x8_1).f0)
                · rw [if_pos c24] at H
                  have c24b0 : (t521 == ((rd_T32 t494 x8_1).f0)) = true := beq_iff_eq.mpr c24
                  have c24b1 : (t521 != ((rd_T32 t494 x8_1).f0)) = false := bne_eq_false_iff_eq.mpr c24
                  clear c24
                  have H' := Aside0.mk H
                  clear H
                  obtain ⟨Ao25, co25, eo25⟩ := Kd.R_slice HO_3.out
                  subst eo25
                  try go_wp2
                  have n0_ := Aside0.mk (Kd.R_drew HO_3.out)
                  have n1_ := Aside0.mk (Kd.R_drew HO_518007.out)
                  have n2_ := Aside0.mk (Kd.R_drew HO_518009.out)
                  have n3_ := Aside0.mk (Kd.R_drew HO_518010.out)
                  have n4_ := Aside0.mk (blk_drew BK517.out)
                  have n5_ := Aside0.mk (below_drew1 HB.out)
                  clear HO_3
                  clear HO_518007
                  clear HO_518009
                  clear HO_518010
                  clear BK517
                  clear HB
                  have HO_3 := n0_
                  have HO_518007 := n1_
                  have HO_518009 := n2_
                  have HO_518010 := n3_
                  have BK517 := n4_
                  have HB := n5_
                  clear n0_ n1_ n2_ n3_ n4_ n5_
                  have p518 : 0 ≤ (x8_1 : Int) := of_decide_eq_true (by first | (with_reducible assumption) | assumption)
                  have q518 : x8_1 < (t494.length : Int) := of_decide_eq_true (by first | (with_reducible assumption) | assumption)
                  obtain ⟨ad518, e518, hx518_0, hx518_1, hx518_2⟩ := at_T32 (Kd.R_reads' HO_3.out).2.2 x8_1 p518 q518
                  cases e518
                  replace p518 := eq_true p518
                  replace q518 := eq_true q518
                  have p519 : 0 ≤ (x8_1 : Int) := of_decide_eq_true (by first | (with_reducible assumption) | assumption)
                  have q519 : x8_1 < (t494.length : Int) := of_decide_eq_true (by first | (with_reducible assumption) | assumption)
                  obtain ⟨ad519, e519, hx519_0, hx519_1, hx519_2⟩ := at_T32 (Kd.R_reads' HO_3.out).2.2 x8_1 p519 q519
                  obtain rfl : ad518 = ad519 := (by injection e519)
                  replace p519 := eq_true p519
                  replace q519 := eq_true q519
                  have p520 : 0 ≤ (x8_1 : Int) := of_decide_eq_true (by first | (with_reducible assumption) | assumption)
                  have q520 : x8_1 < (t494.length : Int) := of_decide_eq_true (by first | (with_reducible assumption) | assumption)
                  obtain ⟨ad520, e520, hx520_0, hx520_1, hx520_2⟩ := at_T32 (Kd.R_reads' HO_3.out).2.2 x8_1 p520 q520
                  obtain rfl : ad518 = ad520 := (by injection e520)
                  replace p520 := eq_true p520
                  replace q520 := eq_true q520
                  have p522 : 0 ≤ (x8_1 : Int) := of_decide_eq_true (by first | (with_reducible assumption) | assumption)
                  have q522 : x8_1 < (t494.length : Int) := of_decide_eq_true (by first | (with_reducible assumption) | assumption)
                  obtain ⟨ad522, e522, hx522_0, hx522_1, hx522_2⟩ := at_T32 (Kd.R_reads' HO_3.out).2.2 x8_1 p522 q522
                  obtain rfl : ad518 = ad522 := (by injection e522)
                  replace p522 := eq_true p522
                  replace q522 := eq_true q522
                  refine start_ (n := 38) (S := fun w' => w'.cell? (ad518.add ((x8_1).toNat * 3)) = some (.int .i64 ((rd_T32 t494 x8_1).f0)) ∧ w'.cell? ⟨(ad518.add ((x8_1).toNat * 3)).block, (ad518.add ((x8_1).toNat * 3)).off + 1, none⟩ = some (.int .i64 ((rd_T32 t494 x8_1).f1)) ∧ w'.cell? ⟨(ad518.add ((x8_1).toNat * 3)).block, (ad518.add ((x8_1).toNat * 3)).off + 2, none⟩ = some (.int .i64 ((rd_T32 t494 x8_1).f2)) ∧ w'.cell? (ad518.add ((x8_1).toNat * 3)) = some (.int .i64 ((rd_T32 t494 x8_1).f0)) ∧ w'.cell? ⟨(ad518.add ((x8_1).toNat * 3)).block, (ad518.add ((x8_1).toNat * 3)).off + 1, none⟩ = some (.int .i64 ((rd_T32 t494 x8_1).f1)) ∧ w'.cell? ⟨(ad518.add ((x8_1).toNat * 3)).block, (ad518.add ((x8_1).toNat * 3)).off + 2, none⟩ = some (.int .i64 ((rd_T32 t494 x8_1).f2)) ∧ w'.cell? (ad518.add ((x8_1).toNat * 3)) = some (.int .i64 ((rd_T32 t494 x8_1).f0)) ∧ w'.cell? ⟨(ad518.add ((x8_1).toNat * 3)).block, (ad518.add ((x8_1).toNat * 3)).off + 1, none⟩ = some (.int .i64 ((rd_T32 t494 x8_1).f1)) ∧ w'.cell? ⟨(ad518.add ((x8_1).toNat * 3)).block, (ad518.add ((x8_1).toNat * 3)).off + 2, none⟩ = some (.int .i64 ((rd_T32 t494 x8_1).f2)) ∧ w'.cell? (ad518.add ((x8_1).toNat * 3)) = some (.int .i64 ((rd_T32 t494 x8_1).f0)) ∧ w'.cell? ⟨(ad518.add ((x8_1).toNat * 3)).block, (ad518.add ((x8_1).toNat * 3)).off + 1, none⟩ = some (.int .i64 ((rd_T32 t494 x8_1).f1)) ∧ w'.cell? ⟨(ad518.add ((x8_1).toNat * 3)).block, (ad518.add ((x8_1).toNat * 3)).off + 2, none⟩ = some (.int .i64 ((rd_T32 t494 x8_1).f2))) (ds := []) #[false, false, false, false, false, false, false, false, false, false, false, false, false, false, false, false, false, false, false, false, false, false, false, false, false, false, false, false, false, false, false, false, false, false, false, false, false, false] (by kernel_rfl) rfl rfl ⟨hx518_0, hx518_1, hx518_2, hx519_0, hx519_1, hx519_2, hx520_0, hx520_1, hx520_2, hx522_0, hx522_1, hx522_2⟩ (fun hHeld => ?_); refine with_tabW crossbarlaw07_PlaceCovers.tab13 crossbarlaw07_PlaceCovers.bits13 (fun HT_ HW_ => ?_)
                  generalize wr.drew = w26 at HO_3 HO_518007 HO_518009 HO_518010 BK517 HB hx518_0 hx518_1 hx518_2 hx519_0 hx519_1 hx519_2 hx520_0 hx520_1 hx520_2 hx522_0 hx522_1 hx522_2 hHeld ⊢
                  refine pure_ (i := 0) (N := some 40) (v := ?_) (a' := ?_) #[true, false, false, false, false, false, false, false, false, false, false, false, false, false, false, false, false, false, false, false, false, false, false, false, false, false, false, false, false, false, false, false, false, false, false, false, false, false] rfl rfl (any_of HT_.out (by kernel_rfl)) (fun _ _ _ h => h) (Or.inl ⟨by rfl, ?_⟩) ?_ ?_
                  rotate_left
                  · intro w'
                    go_simp
                    with_reducible rfl
                  rotate_left
                  · simp only [Act.put, List.setIfInBounds_toArray, List.set_cons_zero, List.set_cons_succ, i64_w, i32_w]
                    rfl
                  refine pure_ (i := 1) (N := some 41) (v := ?_) (a' := ?_) #[true, true, false, false, false, false, false, false, false, false, false, false, false, false, false, false, false, false, false, false, false, false, false, false, false, false, false, false, false, false, false, false, false, false, false, false, false, false] rfl rfl (any_of HT_.out (by kernel_rfl)) (fun _ _ _ h => h) (Or.inl ⟨by rfl, ?_⟩) ?_ ?_
                  rotate_left
                  · intro w'
                    go_simp
                    with_reducible rfl
                  rotate_left
                  · simp only [Act.put, List.setIfInBounds_toArray, List.set_cons_zero, List.set_cons_succ, i64_w, i32_w]
                    rfl
                  refine pure_ (i := 2) (N := some 42) (v := ?_) (a' := ?_) #[true, true, true, false, false, false, false, false, false, false, false, false, false, false, false, false, false, false, false, false, false, false, false, false, false, false, false, false, false, false, false, false, false, false, false, false, false, false] rfl rfl (any_of HT_.out (by kernel_rfl)) (fun _ _ _ h => h) (Or.inl ⟨by rfl, ?_⟩) ?_ ?_
                  rotate_left
                  · intro w'
                    go_simp
                    with_reducible rfl
                  rotate_left
                  · simp only [Act.put, List.setIfInBounds_toArray, List.set_cons_zero, List.set_cons_succ, i64_w, i32_w]
                    rfl
                  refine pure_ (i := 3) (N := some 43) (v := ?_) (a' := ?_) #[true, true, true, true, false, false, false, false, false, false, false, false, false, false, false, false, false, false, false, false, false, false, false, false, false, false, false, false, false, false, false, false, false, false, false, false, false, false] rfl rfl (any_of HT_.out (by kernel_rfl)) (fun _ _ _ h => h) (Or.inl ⟨by rfl, ?_⟩) ?_ ?_
                  rotate_left
                  · intro w'
                    go_simp
                    with_reducible rfl
                  rotate_left
                  · simp only [Act.put, List.setIfInBounds_toArray, List.set_cons_zero, List.set_cons_succ, i64_w, i32_w]
                    rfl
                  refine pure_ (i := 5) (N := some 45) (v := ?_) (a' := ?_) #[true, true, true, true, false, true, false, false, false, false, false, false, false, false, false, false, false, false, false, false, false, false, false, false, false, false, false, false, false, false, false, false, false, false, false, false, false, false] rfl rfl (any_of HT_.out (by kernel_rfl)) (fun _ _ _ h => h) (Or.inl ⟨by rfl, ?_⟩) ?_ ?_
                  rotate_left
                  · intro w'
                    go_simp
                    with_reducible rfl
                  rotate_left
                  · simp only [Act.put, List.setIfInBounds_toArray, List.set_cons_zero, List.set_cons_succ, i64_w, i32_w]
                    rfl
                  refine take_ (i := 4) (N := some 44) (v := ?_) (a' := ?_) #[true, true, true, true, true, true, false, false, false, false, false, false, false, false, false, false, false, false, false, false, false, false, false, false, false, false, false, false, false, false, false, false, false, false, false, false, false, false] rfl rfl (take_ofW HT_.out HW_.out (by kernel_rfl)) (fun _ _ _ h => h) (Or.inl ⟨by rfl, ?_⟩) hHeld ?_ ?_
                  rotate_left
                  · rintro w' ⟨s0, s1, s2, s3, s4, s5, s6, s7, s8, s9, s10, s11⟩
                    go_simp
                    with_reducible rfl
                  rotate_left
                  · simp only [Act.put, List.setIfInBounds_toArray, List.set_cons_zero, List.set_cons_succ, i64_w, i32_w]
                    rfl
                  refine pure_ (i := 6) (N := some 46) (v := ?_) (a' := ?_) #[true, true, true, true, true, true, true, false, false, false, false, false, false, false, false, false, false, false, false, false, false, false, false, false, false, false, false, false, false, false, false, false, false, false, false, false, false, false] rfl rfl (any_of HT_.out (by kernel_rfl)) (fun _ _ _ h => h) (Or.inl ⟨by rfl, ?_⟩) ?_ ?_
                  rotate_left
                  · intro w'
                    go_simp
                    with_reducible rfl
                  rotate_left
                  · simp only [Act.put, List.setIfInBounds_toArray, List.set_cons_zero, List.set_cons_succ, i64_w, i32_w]
                    rfl
                  refine pure_ (i := 7) (N := some 47) (v := ?_) (a' := ?_) #[true, true, true, true, true, true, true, true, false, false, false, false, false, false, false, false, false, false, false, false, false, false, false, false, false, false, false, false, false, false, false, false, false, false, false, false, false, false] rfl rfl (any_of HT_.out (by kernel_rfl)) (fun _ _ _ h => h) (Or.inl ⟨by rfl, ?_⟩) ?_ ?_
                  rotate_left
                  · intro w'
                    go_simp
                    with_reducible rfl
                  rotate_left
                  · simp only [Act.put, List.setIfInBounds_toArray, List.set_cons_zero, List.set_cons_succ, i64_w, i32_w]
                    rfl
                  refine pure_ (i := 8) (N := some 48) (v := ?_) (a' := ?_) #[true, true, true, true, true, true, true, true, true, false, false, false, false, false, false, false, false, false, false, false, false, false, false, false, false, false, false, false, false, false, false, false, false, false, false, false, false, false] rfl rfl (any_of HT_.out (by kernel_rfl)) (fun _ _ _ h => h) (Or.inl ⟨by rfl, ?_⟩) ?_ ?_
                  rotate_left
                  · intro w'
                    go_simp
                    with_reducible rfl
                  rotate_left
                  · simp only [Act.put, List.setIfInBounds_toArray, List.set_cons_zero, List.set_cons_succ, i64_w, i32_w]
                    rfl
                  refine pure_ (i := 9) (N := some 49) (v := ?_) (a' := ?_) #[true, true, true, true, true, true, true, true, true, true, false, false, false, false, false, false, false, false, false, false, false, false, false, false, false, false, false, false, false, false, false, false, false, false, false, false, false, false] rfl rfl (any_of HT_.out (by kernel_rfl)) (fun _ _ _ h => h) (Or.inl ⟨by rfl, ?_⟩) ?_ ?_
                  rotate_left
                  · intro w'
                    go_simp
                    with_reducible rfl
                  rotate_left
                  · simp only [Act.put, List.setIfInBounds_toArray, List.set_cons_zero, List.set_cons_succ, i64_w, i32_w]
                    rfl
                  refine pure_ (i := 10) (N := some 50) (v := ?_) (a' := ?_) #[true, true, true, true, true, true, true, true, true, true, true, false, false, false, false, false, false, false, false, false, false, false, false, false, false, false, false, false, false, false, false, false, false, false, false, false, false, false] rfl rfl (any_of HT_.out (by kernel_rfl)) (fun _ _ _ h => h) (Or.inl ⟨by rfl, ?_⟩) ?_ ?_
                  rotate_left
                  · intro w'
                    go_simp
                    with_reducible rfl
                  rotate_left
                  · simp only [Act.put, List.setIfInBounds_toArray, List.set_cons_zero, List.set_cons_succ, i64_w, i32_w]
                    rfl
                  refine pure_ (i := 11) (N := some 51) (v := ?_) (a' := ?_) #[true, true, true, true, true, true, true, true, true, true, true, true, false, false, false, false, false, false, false, false, false, false, false, false, false, false, false, false, false, false, false, false, false, false, false, false, false, false] rfl rfl (any_of HT_.out (by kernel_rfl)) (fun _ _ _ h => h) (Or.inl ⟨by rfl, ?_⟩) ?_ ?_
                  rotate_left
                  · intro w'
                    go_simp
                    with_reducible rfl
                  rotate_left
                  · simp only [Act.put, List.setIfInBounds_toArray, List.set_cons_zero, List.set_cons_succ, i64_w, i32_w]
                    rfl
                  refine take_ (i := 12) (N := some 52) (v := ?_) (a' := ?_) #[true, true, true, true, true, true, true, true, true, true, true, true, true, false, false, false, false, false, false, false, false, false, false, false, false, false, false, false, false, false, false, false, false, false, false, false, false, false] rfl rfl (take_ofW HT_.out HW_.out (by kernel_rfl)) (fun _ _ _ h => h) (Or.inl ⟨by rfl, ?_⟩) hHeld ?_ ?_
                  rotate_left
                  · rintro w' ⟨s0, s1, s2, s3, s4, s5, s6, s7, s8, s9, s10, s11⟩
                    go_simp
                    with_reducible rfl
                  rotate_left
                  · simp only [Act.put, List.setIfInBounds_toArray, List.set_cons_zero, List.set_cons_succ, i64_w, i32_w]
                    rfl
                  refine pure_ (i := 13) (N := some 53) (v := ?_) (a' := ?_) #[true, true, true, true, true, true, true, true, true, true, true, true, true, true, false, false, false, false, false, false, false, false, false, false, false, false, false, false, false, false, false, false, false, false, false, false, false, false] rfl rfl (any_of HT_.out (by kernel_rfl)) (fun _ _ _ h => h) (Or.inl ⟨by rfl, ?_⟩) ?_ ?_
                  rotate_left
                  · intro w'
                    go_simp
                    with_reducible rfl
                  rotate_left
                  · simp only [Act.put, List.setIfInBounds_toArray, List.set_cons_zero, List.set_cons_succ, i64_w, i32_w]
                    rfl
                  refine pure_ (i := 14) (N := some 54) (v := ?_) (a' := ?_) #[true, true, true, true, true, true, true, true, true, true, true, true, true, true, true, false, false, false, false, false, false, false, false, false, false, false, false, false, false, false, false, false, false, false, false, false, false, false] rfl rfl (any_of HT_.out (by kernel_rfl)) (fun _ _ _ h => h) (Or.inl ⟨by rfl, ?_⟩) ?_ ?_
                  rotate_left
                  · intro w'
                    go_simp
                    with_reducible rfl
                  rotate_left
                  · simp only [Act.put, List.setIfInBounds_toArray, List.set_cons_zero, List.set_cons_succ, i64_w, i32_w]
                    rfl
                  refine pure_ (i := 15) (N := some 55) (v := ?_) (a' := ?_) #[true, true, true, true, true, true, true, true, true, true, true, true, true, true, true, true, false, false, false, false, false, false, false, false, false, false, false, false, false, false, false, false, false, false, false, false, false, false] rfl rfl (any_of HT_.out (by kernel_rfl)) (fun _ _ _ h => h) (Or.inl ⟨by rfl, ?_⟩) ?_ ?_
                  rotate_left
                  · intro w'
                    go_simp
                    with_reducible rfl
                  rotate_left
                  · simp only [Act.put, List.setIfInBounds_toArray, List.set_cons_zero, List.set_cons_succ, i64_w, i32_w]
                    rfl
                  refine pure_ (i := 16) (N := some 56) (v := ?_) (a' := ?_) #[true, true, true, true, true, true, true, true, true, true, true, true, true, true, true, true, true, false, false, false, false, false, false, false, false, false, false, false, false, false, false, false, false, false, false, false, false, false] rfl rfl (any_of HT_.out (by kernel_rfl)) (fun _ _ _ h => h) (Or.inl ⟨by rfl, ?_⟩) ?_ ?_
                  rotate_left
                  · intro w'
                    go_simp
                    with_reducible rfl
                  rotate_left
                  · simp only [Act.put, List.setIfInBounds_toArray, List.set_cons_zero, List.set_cons_succ, i64_w, i32_w]
                    rfl
                  refine pure_ (i := 17) (N := some 57) (v := ?_) (a' := ?_) #[true, true, true, true, true, true, true, true, true, true, true, true, true, true, true, true, true, true, false, false, false, false, false, false, false, false, false, false, false, false, false, false, false, false, false, false, false, false] rfl rfl (any_of HT_.out (by kernel_rfl)) (fun _ _ _ h => h) (Or.inl ⟨by rfl, ?_⟩) ?_ ?_
                  rotate_left
                  · intro w'
                    go_simp
                    with_reducible rfl
                  rotate_left
                  · simp only [Act.put, List.setIfInBounds_toArray, List.set_cons_zero, List.set_cons_succ, i64_w, i32_w]
                    rfl
                  refine pure_ (i := 18) (N := some 58) (v := ?_) (a' := ?_) #[true, true, true, true, true, true, true, true, true, true, true, true, true, true, true, true, true, true, true, false, false, false, false, false, false, false, false, false, false, false, false, false, false, false, false, false, false, false] rfl rfl (any_of HT_.out (by kernel_rfl)) (fun _ _ _ h => h) (Or.inl ⟨by rfl, ?_⟩) ?_ ?_
                  rotate_left
                  · intro w'
                    go_simp
                    with_reducible rfl
                  rotate_left
                  · simp only [Act.put, List.setIfInBounds_toArray, List.set_cons_zero, List.set_cons_succ, i64_w, i32_w]
                    rfl
                  refine pure_ (i := 19) (N := some 59) (v := ?_) (a' := ?_) #[true, true, true, true, true, true, true, true, true, true, true, true, true, true, true, true, true, true, true, true, false, false, false, false, false, false, false, false, false, false, false, false, false, false, false, false, false, false] rfl rfl (any_of HT_.out (by kernel_rfl)) (fun _ _ _ h => h) (Or.inl ⟨by rfl, ?_⟩) ?_ ?_
                  rotate_left
                  · intro w'
                    go_simp
                    with_reducible rfl
                  rotate_left
                  · simp only [Act.put, List.setIfInBounds_toArray, List.set_cons_zero, List.set_cons_succ, i64_w, i32_w]
                    rfl
                  refine pure_ (i := 21) (N := some 61) (v := ?_) (a' := ?_) #[true, true, true, true, true, true, true, true, true, true, true, true, true, true, true, true, true, true, true, true, false, true, false, false, false, false, false, false, false, false, false, false, false, false, false, false, false, false] rfl rfl (any_of HT_.out (by kernel_rfl)) (fun _ _ _ h => h) (Or.inl ⟨by rfl, ?_⟩) ?_ ?_
                  rotate_left
                  · intro w'
                    go_simp
                    with_reducible rfl
                  rotate_left
                  · simp only [Act.put, List.setIfInBounds_toArray, List.set_cons_zero, List.set_cons_succ, i64_w, i32_w]
                    rfl
                  refine pure_ (i := 22) (N := some 62) (v := ?_) (a' := ?_) #[true, true, true, true, true, true, true, true, true, true, true, true, true, true, true, true, true, true, true, true, false, true, true, false, false, false, false, false, false, false, false, false, false, false, false, false, false, false] rfl rfl (any_of HT_.out (by kernel_rfl)) (fun _ _ _ h => h) (Or.inl ⟨by rfl, ?_⟩) ?_ ?_
                  rotate_left
                  · intro w'
                    go_simp
                    with_reducible rfl
                  rotate_left
                  · simp only [Act.put, List.setIfInBounds_toArray, List.set_cons_zero, List.set_cons_succ, i64_w, i32_w]
                    rfl
                  refine pure_ (i := 23) (N := some 63) (v := ?_) (a' := ?_) #[true, true, true, true, true, true, true, true, true, true, true, true, true, true, true, true, true, true, true, true, false, true, true, true, false, false, false, false, false, false, false, false, false, false, false, false, false, false] rfl rfl (any_of HT_.out (by kernel_rfl)) (fun _ _ _ h => h) (Or.inl ⟨by rfl, ?_⟩) ?_ ?_
                  rotate_left
                  · intro w'
                    go_simp
                    with_reducible rfl
                  rotate_left
                  · simp only [Act.put, List.setIfInBounds_toArray, List.set_cons_zero, List.set_cons_succ, i64_w, i32_w]
                    rfl
                  refine pure_ (i := 24) (N := some 64) (v := ?_) (a' := ?_) #[true, true, true, true, true, true, true, true, true, true, true, true, true, true, true, true, true, true, true, true, false, true, true, true, true, false, false, false, false, false, false, false, false, false, false, false, false, false] rfl rfl (any_of HT_.out (by kernel_rfl)) (fun _ _ _ h => h) (Or.inl ⟨by rfl, ?_⟩) ?_ ?_
                  rotate_left
                  · intro w'
                    go_simp
                    with_reducible rfl
                  rotate_left
                  · simp only [Act.put, List.setIfInBounds_toArray, List.set_cons_zero, List.set_cons_succ, i64_w, i32_w]
                    rfl
                  refine take_ (i := 20) (N := some 60) (v := ?_) (a' := ?_) #[true, true, true, true, true, true, true, true, true, true, true, true, true, true, true, true, true, true, true, true, true, true, true, true, true, false, false, false, false, false, false, false, false, false, false, false, false, false] rfl rfl (take_ofW HT_.out HW_.out (by kernel_rfl)) (fun _ _ _ h => h) (Or.inl ⟨by rfl, ?_⟩) hHeld ?_ ?_
                  rotate_left
                  · rintro w' ⟨s0, s1, s2, s3, s4, s5, s6, s7, s8, s9, s10, s11⟩
                    go_simp
                    with_reducible rfl
                  rotate_left
                  · simp only [Act.put, List.setIfInBounds_toArray, List.set_cons_zero, List.set_cons_succ, i64_w, i32_w]
                    rfl
                  refine pure_ (i := 25) (N := some 65) (v := ?_) (a' := ?_) #[true, true, true, true, true, true, true, true, true, true, true, true, true, true, true, true, true, true, true, true, true, true, true, true, true, true, false, false, false, false, false, false, false, false, false, false, false, false] rfl rfl (any_of HT_.out (by kernel_rfl)) (fun _ _ _ h => h) (Or.inl ⟨by rfl, ?_⟩) ?_ ?_
                  rotate_left
                  · intro w'
                    go_simp
                    with_reducible rfl
                  rotate_left
                  · simp only [Act.put, List.setIfInBounds_toArray, List.set_cons_zero, List.set_cons_succ, i64_w, i32_w]
                    rfl
                  refine pure_ (i := 26) (N := some 66) (v := ?_) (a' := ?_) #[true, true, true, true, true, true, true, true, true, true, true, true, true, true, true, true, true, true, true, true, true, true, true, true, true, true, true, false, false, false, false, false, false, false, false, false, false, false] rfl rfl (any_of HT_.out (by kernel_rfl)) (fun _ _ _ h => h) (Or.inl ⟨by rfl, ?_⟩) ?_ ?_
                  rotate_left
                  · intro w'
                    go_simp
                    with_reducible rfl
                  rotate_left
                  · simp only [Act.put, List.setIfInBounds_toArray, List.set_cons_zero, List.set_cons_succ, i64_w, i32_w]
                    rfl
                  refine pure_ (i := 27) (N := some 67) (v := ?_) (a' := ?_) #[true, true, true, true, true, true, true, true, true, true, true, true, true, true, true, true, true, true, true, true, true, true, true, true, true, true, true, true, false, false, false, false, false, false, false, false, false, false] rfl rfl (any_of HT_.out (by kernel_rfl)) (fun _ _ _ h => h) (Or.inl ⟨by rfl, ?_⟩) ?_ ?_
                  rotate_left
                  · intro w'
                    go_simp
                    with_reducible rfl
                  rotate_left
                  · simp only [Act.put, List.setIfInBounds_toArray, List.set_cons_zero, List.set_cons_succ, i64_w, i32_w]
                    rfl
                  refine pure_ (i := 28) (N := some 68) (v := ?_) (a' := ?_) #[true, true, true, true, true, true, true, true, true, true, true, true, true, true, true, true, true, true, true, true, true, true, true, true, true, true, true, true, true, false, false, false, false, false, false, false, false, false] rfl rfl (any_of HT_.out (by kernel_rfl)) (fun _ _ _ h => h) (Or.inl ⟨by rfl, ?_⟩) ?_ ?_
                  rotate_left
                  · intro w'
                    go_simp
                    with_reducible rfl
                  rotate_left
                  · simp only [Act.put, List.setIfInBounds_toArray, List.set_cons_zero, List.set_cons_succ, i64_w, i32_w]
                    rfl
                  refine pure_ (i := 29) (N := some 69) (v := ?_) (a' := ?_) #[true, true, true, true, true, true, true, true, true, true, true, true, true, true, true, true, true, true, true, true, true, true, true, true, true, true, true, true, true, true, false, false, false, false, false, false, false, false] rfl rfl (any_of HT_.out (by kernel_rfl)) (fun _ _ _ h => h) (Or.inl ⟨by rfl, ?_⟩) ?_ ?_
                  rotate_left
                  · intro w'
                    go_simp
                    with_reducible rfl
                  rotate_left
                  · simp only [Act.put, List.setIfInBounds_toArray, List.set_cons_zero, List.set_cons_succ, i64_w, i32_w]
                    rfl
                  refine pure_ (i := 31) (N := some 71) (v := ?_) (a' := ?_) #[true, true, true, true, true, true, true, true, true, true, true, true, true, true, true, true, true, true, true, true, true, true, true, true, true, true, true, true, true, true, false, true, false, false, false, false, false, false] rfl rfl (any_of HT_.out (by kernel_rfl)) (fun _ _ _ h => h) (Or.inl ⟨by rfl, ?_⟩) ?_ ?_
                  rotate_left
                  · intro w'
                    go_simp
                    with_reducible rfl
                  rotate_left
                  · simp only [Act.put, List.setIfInBounds_toArray, List.set_cons_zero, List.set_cons_succ, i64_w, i32_w]
                    rfl
                  refine pure_ (i := 32) (N := some 72) (v := ?_) (a' := ?_) #[true, true, true, true, true, true, true, true, true, true, true, true, true, true, true, true, true, true, true, true, true, true, true, true, true, true, true, true, true, true, false, true, true, false, false, false, false, false] rfl rfl (any_of HT_.out (by kernel_rfl)) (fun _ _ _ h => h) (Or.inl ⟨by rfl, ?_⟩) ?_ ?_
                  rotate_left
                  · intro w'
                    go_simp
                    with_reducible rfl
                  rotate_left
                  · simp only [Act.put, List.setIfInBounds_toArray, List.set_cons_zero, List.set_cons_succ, i64_w, i32_w]
                    rfl
                  refine pure_ (i := 33) (N := some 73) (v := ?_) (a' := ?_) #[true, true, true, true, true, true, true, true, true, true, true, true, true, true, true, true, true, true, true, true, true, true, true, true, true, true, true, true, true, true, false, true, true, true, false, false, false, false] rfl rfl (any_of HT_.out (by kernel_rfl)) (fun _ _ _ h => h) (Or.inl ⟨by rfl, ?_⟩) ?_ ?_
                  rotate_left
                  · intro w'
                    go_simp
                    with_reducible rfl
                  rotate_left
                  · simp only [Act.put, List.setIfInBounds_toArray, List.set_cons_zero, List.set_cons_succ, i64_w, i32_w]
                    rfl
                  refine pure_ (i := 34) (N := some 74) (v := ?_) (a' := ?_) #[true, true, true, true, true, true, true, true, true, true, true, true, true, true, true, true, true, true, true, true, true, true, true, true, true, true, true, true, true, true, false, true, true, true, true, false, false, false] rfl rfl (any_of HT_.out (by kernel_rfl)) (fun _ _ _ h => h) (Or.inl ⟨by rfl, ?_⟩) ?_ ?_
                  rotate_left
                  · intro w'
                    go_simp
                    with_reducible rfl
                  rotate_left
                  · simp only [Act.put, List.setIfInBounds_toArray, List.set_cons_zero, List.set_cons_succ, i64_w, i32_w]
                    rfl
                  refine take_ (i := 35) (N := some 75) (v := ?_) (a' := ?_) #[true, true, true, true, true, true, true, true, true, true, true, true, true, true, true, true, true, true, true, true, true, true, true, true, true, true, true, true, true, true, false, true, true, true, true, true, false, false] rfl rfl (take_ofW HT_.out HW_.out (by kernel_rfl)) (fun _ _ _ h => h) (Or.inl ⟨by rfl, ?_⟩) hHeld ?_ ?_
                  rotate_left
                  · rintro w' ⟨s0, s1, s2, s3, s4, s5, s6, s7, s8, s9, s10, s11⟩
                    go_simp
                    with_reducible rfl
                  rotate_left
                  · simp only [Act.put, List.setIfInBounds_toArray, List.set_cons_zero, List.set_cons_succ, i64_w, i32_w]
                    rfl
                  refine one_ (i := 30) (N := some 70) #[true, true, true, true, true, true, true, true, true, true, true, true, true, true, true, true, true, true, true, true, true, true, true, true, true, true, true, true, true, true, true, true, true, true, true, true, false, false] rfl rfl (one_of HT_.out (by kernel_rfl)) (by decide) (fun K hK => ?_)
                  refine goes_ Try.func15 (by kernel_rfl) rfl #[.slice (some ad518) t494.length co25, .int .i64 x7_1] (by rfl) rfl rfl (by (try simp only [List.map_toArray, List.map_cons, List.map_nil]); first | done | rfl | (simp only [List.length_drop, List.length_take]; rfl)) ?_
                  with_reducible refine (place_Owner.calls _ _ t494 x7_1 t521 _ ?side1 ?side2 A23.out).mono ?_
                  (case side1 => repeat (first | exact (Kd.R_reads' HO_3.out).2.2 | (with_reducible refine Kd.C_alloc ?_ _) | (with_reducible refine Kd.C_drewN ?_ _) | (with_reducible refine Kd.C_drew ?_)))
                  (case side2 => exact (Kd.R_reads' HO_3.out).2.1)
                  rintro e w27 ⟨rfl, hb⟩
                  have HS0_ := (hb.cell (World.block_lt_of_cell? _ _ (hHeld.1))).trans (hHeld.1)
                  have HS1_ := (hb.cell (World.block_lt_of_cell? _ _ (hHeld.2.1))).trans (hHeld.2.1)
                  have HS2_ := (hb.cell (World.block_lt_of_cell? _ _ (hHeld.2.2.1))).trans (hHeld.2.2.1)
                  have HS3_ := (hb.cell (World.block_lt_of_cell? _ _ (hHeld.2.2.2.1))).trans (hHeld.2.2.2.1)
                  have HS4_ := (hb.cell (World.block_lt_of_cell? _ _ (hHeld.2.2.2.2.1))).trans (hHeld.2.2.2.2.1)
                  have HS5_ := (hb.cell (World.block_lt_of_cell? _ _ (hHeld.2.2.2.2.2.1))).trans (hHeld.2.2.2.2.2.1)
                  have HS6_ := (hb.cell (World.block_lt_of_cell? _ _ (hHeld.2.2.2.2.2.2.1))).trans (hHeld.2.2.2.2.2.2.1)
                  have HS7_ := (hb.cell (World.block_lt_of_cell? _ _ (hHeld.2.2.2.2.2.2.2.1))).trans (hHeld.2.2.2.2.2.2.2.1)
                  have HS8_ := (hb.cell (World.block_lt_of_cell? _ _ (hHeld.2.2.2.2.2.2.2.2.1))).trans (hHeld.2.2.2.2.2.2.2.2.1)
                  have HS9_ := (hb.cell (World.block_lt_of_cell? _ _ (hHeld.2.2.2.2.2.2.2.2.2.1))).trans (hHeld.2.2.2.2.2.2.2.2.2.1)
                  have HS10_ := (hb.cell (World.block_lt_of_cell? _ _ (hHeld.2.2.2.2.2.2.2.2.2.2.1))).trans (hHeld.2.2.2.2.2.2.2.2.2.2.1)
                  have HS11_ := (hb.cell (World.block_lt_of_cell? _ _ (hHeld.2.2.2.2.2.2.2.2.2.2.2))).trans (hHeld.2.2.2.2.2.2.2.2.2.2.2)
                  refine ⟨_, rfl, ?_⟩
                  have n0_ := Aside0.mk (Kd.R_below (by (with_reducible repeat (first | apply Kd.R_alloc | apply Kd.R_drewN | apply Kd.R_drew)); exact HO_3.out) hb)
                  have n1_ := Aside0.mk (Kd.R_below (by (with_reducible repeat (first | apply Kd.R_alloc | apply Kd.R_drewN | apply Kd.R_drew)); exact HO_518007.out) hb)
                  have n2_ := Aside0.mk (Kd.R_below (by (with_reducible repeat (first | apply Kd.R_alloc | apply Kd.R_drewN | apply Kd.R_drew)); exact HO_518009.out) hb)
                  have n3_ := Aside0.mk (Kd.R_below (by (with_reducible repeat (first | apply Kd.R_alloc | apply Kd.R_drewN | apply Kd.R_drew)); exact HO_518010.out) hb)
                  have n4_ := Aside0.mk (blk_below (g := gb517) (o := .cells #[.bool t498, .bool t499, .bool t500, .int .i64 t501, .int .u16 t502, .int .u32 t503, .int .u32 t504, .slice Ao14 t505.length co14, .int .u16 t508, .slice Ao15 t509.length co15, .slice Ao16 t512.length co16, .int .i64 t515] 45 (0, 0)) (pk BK517) hb)
                  have n5_ := Aside0.mk (below_step (by repeat (first | (with_reducible first | exact HB.out | apply below_alloc | apply pw_below_drewN | apply below_drew1 | refine below_set ?_ GE517.out) | exact HB.out)) hb)
                  clear HO_3
                  clear HO_518007
                  clear HO_518009
                  clear HO_518010
                  clear BK517
                  clear HB
                  have HO_3 := n0_
                  have HO_518007 := n1_
                  have HO_518009 := n2_
                  have HO_518010 := n3_
                  have BK517 := n4_
                  have HB := n5_
                  clear n0_ n1_ n2_ n3_ n4_ n5_
                  (try clear hb)
                  (try clear hb2)
                  (try clear hk)
                  (try clear hi)
                  refine hK.out _ _ ⟨HS0_, HS1_, HS2_, HS3_, HS4_, HS5_, HS6_, HS7_, HS8_, HS9_, HS10_, HS11_⟩ (fun hHeld => ?_)
                  clear hK K
                  refine norm_ (a' := ?_) ?_ ?_
                  rotate_left
                  · show Act.put _ (some 70) _ = _
                    simp only [Act.put, List.setIfInBounds_toArray, List.set_cons_zero, List.set_cons_succ, i64_w, i32_w]
                    rfl
                  refine pure_ (i := 36) (N := some 76) (v := ?_) (a' := ?_) #[true, true, true, true, true, true, true, true, true, true, true, true, true, true, true, true, true, true, true, true, true, true, true, true, true, true, true, true, true, true, true, true, true, true, true, true, true, false] rfl rfl (any_of HT_.out (by kernel_rfl)) (fun _ _ _ h => h) (Or.inl ⟨by rfl, ?_⟩) ?_ ?_
                  rotate_left
                  · intro w'
                    go_simp
                    with_reducible rfl
                  rotate_left
                  · simp only [Act.put, List.setIfInBounds_toArray, List.set_cons_zero, List.set_cons_succ, i64_w, i32_w]
                    rfl
                  refine pure_ (i := 37) (N := some 77) (v := ?_) (a' := ?_) #[true, true, true, true, true, true, true, true, true, true, true, true, true, true, true, true, true, true, true, true, true, true, true, true, true, true, true, true, true, true, true, true, true, true, true, true, true, true] rfl rfl (any_of HT_.out (by kernel_rfl)) (fun _ _ _ h => h) (Or.inl ⟨by rfl, ?_⟩) ?_ ?_
                  rotate_left
                  · intro w'
                    go_simp
                    with_reducible rfl
                  rotate_left
                  · simp only [Act.put, List.setIfInBounds_toArray, List.set_cons_zero, List.set_cons_succ, i64_w, i32_w]
                    rfl
                  refine done_ (done_of HT_.out (by kernel_rfl)) ?_
                  have p523 : 0 ≤ (x8_1 : Int) := of_decide_eq_true (by first | (with_reducible assumption) | assumption)
                  have q523 : x8_1 < (t494.length : Int) := of_decide_eq_true (by first | (with_reducible assumption) | assumption)
                  obtain ⟨ad523, e523, hx523_0, hx523_1, hx523_2⟩ := at_T32 (Kd.R_reads' HO_3.out).2.2 x8_1 p523 q523
                  obtain rfl : ad518 = ad523 := (by injection e523)
                  replace p523 := eq_true p523
                  replace q523 := eq_true q523
                  try go_wp2
                  go_roundg k1
                  case measure => have := HK1.out; omega
                  case rel => exact ⟨(wrap64 (x7_1 + ((rd_T32 t494 x8_1).f2))), (wrap64 (x8_1 + 1)), (by first | rfl | (simp; done) | (simp [*]; done)), (by first | rfl | (simp; done) | (simp [*]; done)), H', ⟨by have := HK1.out; omega⟩, ⟨by (with_reducible repeat (first | apply Kd.R_alloc | apply Kd.R_drewN | apply Kd.R_drew)); exact HO_3.out⟩, ⟨by (with_reducible repeat (first | apply Kd.R_alloc | apply Kd.R_drewN | apply Kd.R_drew)); exact HO_518007.out⟩, ⟨by (with_reducible repeat (first | apply Kd.R_alloc | apply Kd.R_drewN | apply Kd.R_drew)); exact HO_518009.out⟩, ⟨by (with_reducible repeat (first | apply Kd.R_alloc | apply Kd.R_drewN | apply Kd.R_drew)); exact HO_518010.out⟩, ⟨by (with_reducible repeat (first | refine blk_drewN ?_ _ | refine blk_drew ?_ | refine blk_alloc ?_ _)); exact BK517.out⟩, ⟨by repeat (first | (with_reducible first | exact HB.out | apply below_alloc | apply pw_below_drewN | apply below_drew1 | refine below_set ?_ GE517.out) | exact HB.out)⟩⟩
                rw [if_neg c24] at H
                exact absurd H (by simp)
              rw [if_neg c20] at H
              have c20b0 : (((rd_T32 t494 x8_1).f1) == x7_1) = false := beq_eq_false_iff_ne.mpr c20
              have c20b1 : (((rd_T32 t494 x8_1).f1) != x7_1) = true := bne_iff_ne.mpr c20
              exact absurd H (by simp)
            rw [if_neg c19] at H
            exact absurd H (by simp)
          rw [if_neg c18] at H
          have c18b0 : decide (x8_1 < (t494.length : Int)) = false := decide_eq_false c18
          clear c18
          by_cases c28 : t516 = 0
          · rw [if_pos c28] at H
            have c28b0 : (t516 == 0) = true := beq_iff_eq.mpr c28
            have c28b1 : (t516 != 0) = false := bne_eq_false_iff_eq.mpr c28
            clear c28
            by_cases c29 : x7_1 = (l0.length : Int)
            · rw [if_pos c29] at H
              have c29b0 : (x7_1 == (l0.length : Int)) = true := beq_iff_eq.mpr c29
              have c29b1 : (x7_1 != (l0.length : Int)) = false := bne_eq_false_iff_eq.mpr c29
              clear c29
              replace H := Option.bind_eq_some_iff.mp H
              obtain ⟨t524, A300, H⟩ := H
              replace H : (if t524 = (-1) then ((place_Owner.f t494 (-1)).bind fun t525 => (some (t525 == (-1)))) else (none)) = some r := H
              have A30 := Aside0.mk A300
              clear A300
              by_cases c31 : t524 = (-1)
              · rw [if_pos c31] at H
                have c31b0 : (t524 == (-1)) = true := beq_iff_eq.mpr c31
                have c31b1 : (t524 != (-1)) = false := bne_eq_false_iff_eq.mpr c31
                clear c31
                replace H := Option.bind_eq_some_iff.mp H
                obtain ⟨t525, A320, H⟩ := H
                replace H : (some (t525 == (-1))) = some r := H
                have A32 := Aside0.mk A320
                clear A320
                obtain rfl := Option.some.inj H
                obtain ⟨Ao33, co33, eo33⟩ := Kd.R_slice HO_3.out
                subst eo33
                go_wp2_with (first | (go_at_call 15; (with_reducible refine (place_Owner.calls _ _ t494 x7_1 t524 _ ?side1 ?side2 A30.out).mono ?_); (case side1 => repeat (first | exact (Kd.R_reads' HO_3.out).2.2 | (with_reducible refine Kd.C_alloc ?_ _) | (with_reducible refine Kd.C_drewN ?_ _) | (with_reducible refine Kd.C_drew ?_))); (case side2 => exact (Kd.R_reads' HO_3.out).2.1); rintro e w34 ⟨rfl, hb⟩; have n0_ := Aside0.mk (Kd.R_below (by (with_reducible repeat (first | apply Kd.R_alloc | apply Kd.R_drewN | apply Kd.R_drew)); exact HO_3.out) hb); have n1_ := Aside0.mk (Kd.R_below (by (with_reducible repeat (first | apply Kd.R_alloc | apply Kd.R_drewN | apply Kd.R_drew)); exact HO_518007.out) hb); have n2_ := Aside0.mk (Kd.R_below (by (with_reducible repeat (first | apply Kd.R_alloc | apply Kd.R_drewN | apply Kd.R_drew)); exact HO_518009.out) hb); have n3_ := Aside0.mk (Kd.R_below (by (with_reducible repeat (first | apply Kd.R_alloc | apply Kd.R_drewN | apply Kd.R_drew)); exact HO_518010.out) hb); have n4_ := Aside0.mk (blk_below (g := gb517) (o := .cells #[.bool t498, .bool t499, .bool t500, .int .i64 t501, .int .u16 t502, .int .u32 t503, .int .u32 t504, .slice Ao14 t505.length co14, .int .u16 t508, .slice Ao15 t509.length co15, .slice Ao16 t512.length co16, .int .i64 t515] 45 (0, 0)) (pk BK517) hb); have n5_ := Aside0.mk (below_step (by repeat (first | (with_reducible first | exact HB.out | apply below_alloc | apply pw_below_drewN | apply below_drew1 | refine below_set ?_ GE517.out) | exact HB.out)) hb); clear HO_3; clear HO_518007; clear HO_518009; clear HO_518010; clear BK517; clear HB; have HO_3 := n0_; have HO_518007 := n1_; have HO_518009 := n2_; have HO_518010 := n3_; have BK517 := n4_; have HB := n5_; clear n0_ n1_ n2_ n3_ n4_ n5_; (try clear hb); (try clear hb2); (try clear hk); (try clear hi)) | (go_at_call 15; (with_reducible refine (place_Owner.calls _ _ t494 (-1) t525 _ ?side1 ?side2 A32.out).mono ?_); (case side1 => repeat (first | exact (Kd.R_reads' HO_3.out).2.2 | (with_reducible refine Kd.C_alloc ?_ _) | (with_reducible refine Kd.C_drewN ?_ _) | (with_reducible refine Kd.C_drew ?_))); (case side2 => exact (Kd.R_reads' HO_3.out).2.1); rintro e w35 ⟨rfl, hb⟩; have n0_ := Aside0.mk (Kd.R_below (by (with_reducible repeat (first | apply Kd.R_alloc | apply Kd.R_drewN | apply Kd.R_drew)); exact HO_3.out) hb); have n1_ := Aside0.mk (Kd.R_below (by (with_reducible repeat (first | apply Kd.R_alloc | apply Kd.R_drewN | apply Kd.R_drew)); exact HO_518007.out) hb); have n2_ := Aside0.mk (Kd.R_below (by (with_reducible repeat (first | apply Kd.R_alloc | apply Kd.R_drewN | apply Kd.R_drew)); exact HO_518009.out) hb); have n3_ := Aside0.mk (Kd.R_below (by (with_reducible repeat (first | apply Kd.R_alloc | apply Kd.R_drewN | apply Kd.R_drew)); exact HO_518010.out) hb); have n4_ := Aside0.mk (blk_below (g := gb517) (o := .cells #[.bool t498, .bool t499, .bool t500, .int .i64 t501, .int .u16 t502, .int .u32 t503, .int .u32 t504, .slice Ao14 t505.length co14, .int .u16 t508, .slice Ao15 t509.length co15, .slice Ao16 t512.length co16, .int .i64 t515] 45 (0, 0)) (pk BK517) hb); have n5_ := Aside0.mk (below_step (by repeat (first | (with_reducible first | exact HB.out | apply below_alloc | apply pw_below_drewN | apply below_drew1 | refine below_set ?_ GE517.out) | exact HB.out)) hb); clear HO_3; clear HO_518007; clear HO_518009; clear HO_518010; clear BK517; clear HB; have HO_3 := n0_; have HO_518007 := n1_; have HO_518009 := n2_; have HO_518010 := n3_; have BK517 := n4_; have HB := n5_; clear n0_ n1_ n2_ n3_ n4_ n5_; (try clear hb); (try clear hb2); (try clear hk); (try clear hi)))
                go_ret
                exact ⟨by first | rfl | (simp [errW_none, errW_some] <;> rfl) | (simp [*, errW_none, errW_some] <;> rfl), by repeat (first | (with_reducible first | exact HB.out | apply below_alloc | apply pw_below_drewN | apply below_drew1 | refine below_set ?_ GE517.out) | exact HB.out)⟩
              rw [if_neg c31] at H
              exact absurd H (by simp)
            rw [if_neg c29] at H
            exact absurd H (by simp)
          rw [if_neg c28] at H
          exact absurd H (by simp)
    rw [if_neg c8] at H
    have c8b0 : (t495 == 0) = false := beq_eq_false_iff_ne.mpr c8
    have c8b1 : (t495 != 0) = true := bne_iff_ne.mpr c8
    by_cases c36 : t495 = t516
    · rw [if_pos c36] at H
      have c36b0 : (t495 == t516) = true := beq_iff_eq.mpr c36
      have c36b1 : (t495 != t516) = false := bne_eq_false_iff_eq.mpr c36
      clear c36
      obtain rfl := Option.some.inj H
      go_enter Try.func4, Try.ntmps4
      go_wp2_with (first | ((with_reducible refine gate_callee (f := 9) rfl ?_); refine goesL_ (some 9) rfl rfl Try.func9 (by kernel_rfl) rfl #[] rfl (by (try simp only [List.map_toArray, List.map_cons, List.map_nil]); first | done | rfl | (simp only [List.length_drop, List.length_take]; rfl)) ?_; (with_reducible refine (crossbarlaw07_awake.calls k  true _ A2.out).mono ?_); rintro e w37 ⟨rfl, hb⟩; refine ⟨_, rfl, ?_⟩; have n0_ := Aside0.mk (below_step (by repeat (first | (with_reducible first | exact HB.out | apply below_alloc | apply pw_below_drewN | apply below_drew1) | exact HB.out)) hb); clear HB; have HB := n0_; clear n0_; (try clear hb); (try clear hb2); (try clear hk); (try clear hi)) | ((with_reducible refine gate_callee (f := 10) rfl ?_); refine goesL_ (some 16) rfl rfl Try.func10 (by kernel_rfl) rfl #[.slice A0 l0.length c0] rfl (by (try simp only [List.map_toArray, List.map_cons, List.map_nil]); first | done | rfl | (simp only [List.length_drop, List.length_take]; rfl)) ?_; (with_reducible refine (place_Of.calls k _ _ l0 t494 t495 _ ?side1 ?side2 A6.out).mono ?_); (case side1 => repeat (first | exact (Kd.C_below HR0.out HB.out) | (with_reducible refine Kd.C_alloc ?_ _) | (with_reducible refine Kd.C_drewN ?_ _) | (with_reducible refine Kd.C_drew ?_))); (case side2 => exact HC0.out); rintro e w38 ⟨v496, rfl, ho0, hb⟩; refine ⟨_, rfl, ?_⟩; have n0_ := Aside0.mk (Kd.R_lower ho0 (below_size (by repeat (first | (with_reducible first | exact HB.out | apply below_alloc | apply pw_below_drewN | apply below_drew1) | exact HB.out)))); have n1_ := Aside0.mk (below_step (by repeat (first | (with_reducible first | exact HB.out | apply below_alloc | apply pw_below_drewN | apply below_drew1) | exact HB.out)) hb); clear HB; have HO497 := n0_; have HB := n1_; clear n0_ n1_; (try clear hb); (try clear hb2); (try clear hk); (try clear hi); (try clear ho0)) | ((with_reducible refine gate_callee (f := 17) rfl ?_); refine goesL_ (some 21) rfl rfl Try.func17 (by kernel_rfl) rfl #[.slice A0 l0.length c0] rfl (by (try simp only [List.map_toArray, List.map_cons, List.map_nil]); first | done | rfl | (simp only [List.length_drop, List.length_take]; rfl)) ?_; (with_reducible refine (packet_Read.calls k _ _ l0 t498 t499 t500 t501 t502 t503 t504 t505 t508 t509 t512 t515 t516 _ ?side1 ?side2 A7.out).mono ?_); (case side1 => repeat (first | exact (Kd.C_below HR0.out HB.out) | (with_reducible refine Kd.C_alloc ?_ _) | (with_reducible refine Kd.C_drewN ?_ _) | (with_reducible refine Kd.C_drew ?_))); (case side2 => exact HC0.out); rintro e w39 ⟨v506, v510, v513, rfl, ho0, ho1, ho2, hb⟩; refine ⟨_, rfl, ?_⟩; have n0_ := Aside0.mk (Kd.R_below (by (with_reducible repeat (first | apply Kd.R_alloc | apply Kd.R_drewN | apply Kd.R_drew)); exact HO497.out) hb); have n1_ := Aside0.mk (Kd.R_lower ho0 (below_size (by repeat (first | (with_reducible first | exact HB.out | apply below_alloc | apply pw_below_drewN | apply below_drew1) | exact HB.out)))); have n2_ := Aside0.mk (Kd.R_lower ho1 (below_size (by repeat (first | (with_reducible first | exact HB.out | apply below_alloc | apply pw_below_drewN | apply below_drew1) | exact HB.out)))); have n3_ := Aside0.mk (Kd.R_lower ho2 (below_size (by repeat (first | (with_reducible first | exact HB.out | apply below_alloc | apply pw_below_drewN | apply below_drew1) | exact HB.out)))); have n4_ := Aside0.mk (below_step (by repeat (first | (with_reducible first | exact HB.out | apply below_alloc | apply pw_below_drewN | apply below_drew1) | exact HB.out)) hb); clear HO497; clear HB; have HO497 := n0_; have HO507 := n1_; have HO511 := n2_; have HO514 := n3_; have HB := n4_; clear n0_ n1_ n2_ n3_ n4_; (try clear hb); (try clear hb2); (try clear hk); (try clear hi); (try clear ho0); (try clear ho1); (try clear ho2)) | ((with_reducible refine gate_dst (N := 5) rfl ?_); (try (refine gate_guard (by rfl) ?_; dsimp only)); refine box_event ?hg (N := 5) ?hd (cs := #[.bool false, .bool false, .bool false, .int .i64 0, .int .u16 0, .int .u32 0, .int .u32 0, .slice none 0 0, .int .u16 0, .slice none 0 0, .slice none 0 0, .int .i64 0]) (t := 45) ?hr ?_; (case hd => rfl); (case hg => rfl); (case hr => first | (go_simp; done) | (go_simp; rfl)); intro gb517 hg w40 hbox hb; have n0_ := Aside0.mk (Kd.R_below (by (with_reducible repeat (first | apply Kd.R_alloc | apply Kd.R_drewN | apply Kd.R_drew)); exact HO497.out) hb); have n1_ := Aside0.mk (Kd.R_below (by (with_reducible repeat (first | apply Kd.R_alloc | apply Kd.R_drewN | apply Kd.R_drew)); exact HO507.out) hb); have n2_ := Aside0.mk (Kd.R_below (by (with_reducible repeat (first | apply Kd.R_alloc | apply Kd.R_drewN | apply Kd.R_drew)); exact HO511.out) hb); have n3_ := Aside0.mk (Kd.R_below (by (with_reducible repeat (first | apply Kd.R_alloc | apply Kd.R_drewN | apply Kd.R_drew)); exact HO514.out) hb); have n4_ := Aside0.mk (below_step (by repeat (first | (with_reducible first | exact HB.out | apply below_alloc | apply pw_below_drewN | apply below_drew1) | exact HB.out)) hb); have n5_ := Aside0.mk (hbox); have n6_ := Aside0.mk ((by rw [hg]; exact (below_size (by repeat (first | (with_reducible first | exact HB.out | apply below_alloc | apply pw_below_drewN | apply below_drew1) | exact HB.out))) : w.heap.size ≤ gb517)); have n7_ := Aside0.mk ((by rw [hg]; exact (below_size (by repeat (first | (with_reducible first | exact HB.out | apply below_alloc | apply pw_below_drewN | apply below_drew1) | exact HB.out))) : w.heap.size ≤ gb517)); clear HO497; clear HO507; clear HO511; clear HO514; clear HB; have HO497 := n0_; have HO507 := n1_; have HO511 := n2_; have HO514 := n3_; have HB := n4_; have BK517 := n5_; have GW517 := n6_; have GE517 := n7_; clear n0_ n1_ n2_ n3_ n4_ n5_ n6_ n7_; clear hb hbox hg; obtain ⟨hcz41_0, hcz41_1, hcz41_2, hcz41_3, hcz41_4, hcz41_5, hcz41_6, hcz41_7, hcz41_8, hcz41_9, hcz41_10, hcz41_11, hfz41_0, hfz41_1, hfz41_2, hfz41_3, hfz41_4, hfz41_5, hfz41_6, hfz41_7, hfz41_8, hfz41_9, hfz41_10, hfz41_11⟩ := bc12 BK517.out; obtain ⟨Ao42, co42, eo42⟩ := Kd.R_slice HO507.out; subst eo42; obtain ⟨Ao43, co43, eo43⟩ := Kd.R_slice HO511.out; subst eo43; obtain ⟨Ao44, co44, eo44⟩ := Kd.R_slice HO514.out; subst eo44) | ((with_reducible refine gate_store (t := 45) (p := 5) rfl ?_); refine store_event (t := 45) (p := 5) (v := ?vo_w45) (w1 := ((((((((((((w40.setCell ⟨gb517, 0, none⟩ (.bool t498)).setCell ⟨gb517, 1, none⟩ (.bool t499)).setCell ⟨gb517, 2, none⟩ (.bool t500)).setCell ⟨gb517, 3, none⟩ (.int .i64 t501)).setCell ⟨gb517, 4, none⟩ (.int .u16 t502)).setCell ⟨gb517, 5, none⟩ (.int .u32 t503)).setCell ⟨gb517, 6, none⟩ (.int .u32 t504)).setCell ⟨gb517, 7, none⟩ (.slice Ao42 t505.length co42)).setCell ⟨gb517, 8, none⟩ (.int .u16 t508)).setCell ⟨gb517, 9, none⟩ (.slice Ao43 t509.length co43)).setCell ⟨gb517, 10, none⟩ (.slice Ao44 t512.length co44)).setCell ⟨gb517, 11, none⟩ (.int .i64 t515))) ?hg ?ho ?hn ?hr ?_; (case ho => rfl); (case hg => rfl); (case hn => rfl); (case hr => first | (go_simp; done) | (go_simp; rfl)); intro w45 hw; have n0_ : Aside0 (Kd.R k32 32 w45 w.heap.size (fun _ => True) v496 t494) := ⟨(by rw [hw]; exact (by (with_reducible repeat (first | apply Kd.R_alloc | apply Kd.R_drewN | apply Kd.R_drew)); exact Kd.R_mono (Kd.R_far (p := ⟨gb517, 11, none⟩) (Kd.R_far (p := ⟨gb517, 10, none⟩) (Kd.R_far (p := ⟨gb517, 9, none⟩) (Kd.R_far (p := ⟨gb517, 8, none⟩) (Kd.R_far (p := ⟨gb517, 7, none⟩) (Kd.R_far (p := ⟨gb517, 6, none⟩) (Kd.R_far (p := ⟨gb517, 5, none⟩) (Kd.R_far (p := ⟨gb517, 4, none⟩) (Kd.R_far (p := ⟨gb517, 3, none⟩) (Kd.R_far (p := ⟨gb517, 2, none⟩) (Kd.R_far (p := ⟨gb517, 1, none⟩) (Kd.R_far (p := ⟨gb517, 0, none⟩) (Kd.R_types HO497.out BK517.out (by decide)) (fun _ hk => hk.2) (.bool t498)) (fun _ hk => hk.2) (.bool t499)) (fun _ hk => hk.2) (.bool t500)) (fun _ hk => hk.2) (.int .i64 t501)) (fun _ hk => hk.2) (.int .u16 t502)) (fun _ hk => hk.2) (.int .u32 t503)) (fun _ hk => hk.2) (.int .u32 t504)) (fun _ hk => hk.2) (.slice Ao42 t505.length co42)) (fun _ hk => hk.2) (.int .u16 t508)) (fun _ hk => hk.2) (.slice Ao43 t509.length co43)) (fun _ hk => hk.2) (.slice Ao44 t512.length co44)) (fun _ hk => hk.2) (.int .i64 t515)) (fun _ hk => trivial)))⟩; have n1_ : Aside0 (Kd.R (Kd.int .u32) 40 w45 w.heap.size (fun _ => True) (.slice Ao42 t505.length co42) t505) := ⟨(by rw [hw]; exact (by (with_reducible repeat (first | apply Kd.R_alloc | apply Kd.R_drewN | apply Kd.R_drew)); exact Kd.R_mono (Kd.R_far (p := ⟨gb517, 11, none⟩) (Kd.R_far (p := ⟨gb517, 10, none⟩) (Kd.R_far (p := ⟨gb517, 9, none⟩) (Kd.R_far (p := ⟨gb517, 8, none⟩) (Kd.R_far (p := ⟨gb517, 7, none⟩) (Kd.R_far (p := ⟨gb517, 6, none⟩) (Kd.R_far (p := ⟨gb517, 5, none⟩) (Kd.R_far (p := ⟨gb517, 4, none⟩) (Kd.R_far (p := ⟨gb517, 3, none⟩) (Kd.R_far (p := ⟨gb517, 2, none⟩) (Kd.R_far (p := ⟨gb517, 1, none⟩) (Kd.R_far (p := ⟨gb517, 0, none⟩) (Kd.R_types HO507.out BK517.out (by decide)) (fun _ hk => hk.2) (.bool t498)) (fun _ hk => hk.2) (.bool t499)) (fun _ hk => hk.2) (.bool t500)) (fun _ hk => hk.2) (.int .i64 t501)) (fun _ hk => hk.2) (.int .u16 t502)) (fun _ hk => hk.2) (.int .u32 t503)) (fun _ hk => hk.2) (.int .u32 t504)) (fun _ hk => hk.2) (.slice Ao42 t505.length co42)) (fun _ hk => hk.2) (.int .u16 t508)) (fun _ hk => hk.2) (.slice Ao43 t509.length co43)) (fun _ hk => hk.2) (.slice Ao44 t512.length co44)) (fun _ hk => hk.2) (.int .i64 t515)) (fun _ hk => trivial)))⟩; have n2_ : Aside0 (Kd.R (Kd.int .u8) 5 w45 w.heap.size (fun k_ => some k_ ≠ (.slice Ao44 t512.length co44 : Value).ownBlock) (.slice Ao43 t509.length co43) t509) := ⟨(by rw [hw]; exact (by (with_reducible repeat (first | apply Kd.R_alloc | apply Kd.R_drewN | apply Kd.R_drew)); exact Kd.R_mono (Kd.R_far (p := ⟨gb517, 11, none⟩) (Kd.R_far (p := ⟨gb517, 10, none⟩) (Kd.R_far (p := ⟨gb517, 9, none⟩) (Kd.R_far (p := ⟨gb517, 8, none⟩) (Kd.R_far (p := ⟨gb517, 7, none⟩) (Kd.R_far (p := ⟨gb517, 6, none⟩) (Kd.R_far (p := ⟨gb517, 5, none⟩) (Kd.R_far (p := ⟨gb517, 4, none⟩) (Kd.R_far (p := ⟨gb517, 3, none⟩) (Kd.R_far (p := ⟨gb517, 2, none⟩) (Kd.R_far (p := ⟨gb517, 1, none⟩) (Kd.R_far (p := ⟨gb517, 0, none⟩) (Kd.R_types HO511.out BK517.out (by decide)) (fun _ hk => hk.2) (.bool t498)) (fun _ hk => hk.2) (.bool t499)) (fun _ hk => hk.2) (.bool t500)) (fun _ hk => hk.2) (.int .i64 t501)) (fun _ hk => hk.2) (.int .u16 t502)) (fun _ hk => hk.2) (.int .u32 t503)) (fun _ hk => hk.2) (.int .u32 t504)) (fun _ hk => hk.2) (.slice Ao42 t505.length co42)) (fun _ hk => hk.2) (.int .u16 t508)) (fun _ hk => hk.2) (.slice Ao43 t509.length co43)) (fun _ hk => hk.2) (.slice Ao44 t512.length co44)) (fun _ hk => hk.2) (.int .i64 t515)) (fun _ hk => hk.1)))⟩; have n3_ : Aside0 (Kd.R (Kd.int .u8) 5 w45 w.heap.size (fun k_ => some k_ ≠ (.slice Ao43 t509.length co43 : Value).ownBlock) (.slice Ao44 t512.length co44) t512) := ⟨(by rw [hw]; exact (by (with_reducible repeat (first | apply Kd.R_alloc | apply Kd.R_drewN | apply Kd.R_drew)); exact Kd.R_mono (Kd.R_far (p := ⟨gb517, 11, none⟩) (Kd.R_far (p := ⟨gb517, 10, none⟩) (Kd.R_far (p := ⟨gb517, 9, none⟩) (Kd.R_far (p := ⟨gb517, 8, none⟩) (Kd.R_far (p := ⟨gb517, 7, none⟩) (Kd.R_far (p := ⟨gb517, 6, none⟩) (Kd.R_far (p := ⟨gb517, 5, none⟩) (Kd.R_far (p := ⟨gb517, 4, none⟩) (Kd.R_far (p := ⟨gb517, 3, none⟩) (Kd.R_far (p := ⟨gb517, 2, none⟩) (Kd.R_far (p := ⟨gb517, 1, none⟩) (Kd.R_far (p := ⟨gb517, 0, none⟩) (Kd.R_types HO514.out BK517.out (by decide)) (fun _ hk => hk.2) (.bool t498)) (fun _ hk => hk.2) (.bool t499)) (fun _ hk => hk.2) (.bool t500)) (fun _ hk => hk.2) (.int .i64 t501)) (fun _ hk => hk.2) (.int .u16 t502)) (fun _ hk => hk.2) (.int .u32 t503)) (fun _ hk => hk.2) (.int .u32 t504)) (fun _ hk => hk.2) (.slice Ao42 t505.length co42)) (fun _ hk => hk.2) (.int .u16 t508)) (fun _ hk => hk.2) (.slice Ao43 t509.length co43)) (fun _ hk => hk.2) (.slice Ao44 t512.length co44)) (fun _ hk => hk.2) (.int .i64 t515)) (fun _ hk => hk.1)))⟩; have n4_ : Aside0 (w45.heap[gb517]? = some (.cells #[.bool t498, .bool t499, .bool t500, .int .i64 t501, .int .u16 t502, .int .u32 t503, .int .u32 t504, .slice Ao42 t505.length co42, .int .u16 t508, .slice Ao43 t509.length co43, .slice Ao44 t512.length co44, .int .i64 t515] 45 (0, 0))) := ⟨(by rw [hw]; exact (by (with_reducible repeat (first | refine blk_drewN ?_ _ | refine blk_drew ?_ | refine blk_alloc ?_ _)); apply puts12; (with_reducible repeat (first | refine blk_drewN ?_ _ | refine blk_drew ?_ | refine blk_alloc ?_ _)); exact BK517.out))⟩; have n5_ : Aside0 (Below w.heap.size w w45) := ⟨(by rw [hw]; exact (by repeat (first | (with_reducible first | exact HB.out | apply below_alloc | apply pw_below_drewN | apply below_drew1 | refine below_set ?_ GE517.out) | exact HB.out)))⟩; clear hw; clear HO497; clear HO507; clear HO511; clear HO514; clear BK517; clear HB; have HO497 := n0_; have HO507 := n1_; have HO511 := n2_; have HO514 := n3_; have BK517 := n4_; have HB := n5_; clear n0_ n1_ n2_ n3_ n4_ n5_; obtain ⟨Ao46, co46, eo46⟩ := Kd.R_slice HO497.out; subst eo46))
      go_ret
      exact ⟨by first | rfl | (simp [errW_none, errW_some] <;> rfl) | (simp [*, errW_none, errW_some] <;> rfl), by repeat (first | (with_reducible first | exact HB.out | apply below_alloc | apply pw_below_drewN | apply below_drew1 | refine below_set ?_ GE517.out) | exact HB.out)⟩
    rw [if_neg c36] at H
    exact absurd H (by simp)
  replace c3 := Bool.eq_false_iff.mpr c3
  subst c3
  have H1 : (none) = some r := by rw [if_neg (show ¬ (false = true) by decide)] at H; exact H
  clear H
  have H := H1
  clear H1
  exact absurd H (by simp)

/-- THE ONE PURE STATEMENT of crossbarlaw07_PlaceCovers: yours. -/
def crossbarlaw07_PlaceCovers.Pure : Prop := ∀ (l0 : List Int), l0.length ≤ maxLen → l0.length * 1 ≤ 140737488351232 → (∀ x ∈ l0, (Lit.int .u8 x).wf = true) → ∃ k, crossbarlaw07_PlaceCovers.f k l0 = some true
theorem crossbarlaw07_PlaceCovers.walk (P : crossbarlaw07_PlaceCovers.Pure) (a0 : Option Addr) (len0 cap0 : Nat) (z0 : List Int) (w : World) (w0 : (a0 = none ∧ len0 = 0 ∧ cap0 = 0 ∧ z0 = []) ∨ ∃ x, a0 = some x ∧ len0 ≤ cap0 ∧ cap0 ≤ maxLen ∧ z0.length = cap0 ∧ (∀ i, i < z0.length → w.cell? (x.add i) = some (.int .u8 (z0.getD i 0))) ∧ ∀ n ∈ z0, (Lit.int .u8 n).wf = true) (y0 : len0 * 1 ≤ 140737488351232) :
    Calls Try.prog 4 #[.slice a0 len0 cap0] w fun e w' => e = .returned (.bool true) ∧ Below w.heap.size w w' := by
  obtain ⟨l0, rfl, hr0, hm0, hw0, hc0⟩ := ReadsInt.ofRowC w0
  obtain ⟨k, h⟩ := P l0 hm0 y0 hw0
  refine (crossbarlaw07_PlaceCovers.calls k _ _ l0 true w (Kd.C_of_reads (d := (0 : Int)) (h1 := fun _ => rfl) hr0) hc0 h).mono ?_
  rintro e w' ⟨rfl, hd⟩
  exact ⟨rfl, hd⟩

end Go.Proofs.Ytcbdgknfkoodoaa.F
