/- The walks of the program's functions and the plain proofs for this claim, merged by a program; each theorem says what it says, no conditions beyond those stated. -/
import Derived.Test.YtcbdgknfkoodoaaKA3
import Derived.ChangeSlices
import Derived.Deep.Slices
import Derived.WideShapes
import Derived.SizedLaws
import Derived.KernelRfl
namespace Go.Proofs.Ytcbdgknfkoodoaa.F
open Go.RowKit Go.Proofs.YtcbdgknfkoodoaaW.PrintWords Go.Proofs.YtcbdgknfkoodoaaW.PrintLast Go.Proofs.YtcbdgknfkoodoaaW.PrintMore
attribute [local go_sem] max2_int min2_int max_two min_two max_three min_three max_four min_four   
set_option linter.unusedVariables false
set_option linter.unusedSimpArgs false
def crossbarref06_Read.j0 : Nat → List Int → Int → Bool → Bool → Bool → Int → Int → Int → Int → List Int → Bool → Bool → Bool → Int → Int → Int → Int → List Int → Int → List Int → Int → Option (Bool × Bool × Bool × Int × Int × Int × Int × List Int × Int × List Int × List Int × Int × Int)
  | 0, _, _, _, _, _, _, _, _, _, _, _, _, _, _, _, _, _, _, _, _, _ => none
  | k + 1, x0, x5, x387000, x387001, x387002, x387003, x387004, x387005, x387006, x387007, x388000, x388001, x388002, x388003, x388004, x388005, x388006, x388007, x388008, x388009, x388011 => if x387000 = true then (if 0 ≤ x5 then (if x5 ≤ (x0.length : Int) then ((crossbarref03_Trail.f (x0.drop (x5 : Int).toNat)).bind fun t398 => (if t398 = 0 then (some (false, false, false, 0, 0, 0, 0, ([] : List Int), 0, ([] : List Int), ([] : List Int), 0, 5)) else ((some (([] : List Int) : List Int)).bind fun y399 => (if x5 ≤ (wrap64 ((x0.length : Int) - t398)) then (if (wrap64 ((x0.length : Int) - t398)) ≤ (x0.length : Int) then (if y399.length + ((x0.take ((wrap64 ((x0.length : Int) - t398)) : Int).toNat).drop (x5 : Int).toNat).length < 140737488355328 then (some (x388000, x388001, x388002, x388003, x388004, x388005, x388006, x388007, x388008, x388009, (y399 ++ ((x0.take ((wrap64 ((x0.length : Int) - t398)) : Int).toNat).drop (x5 : Int).toNat)), t398, 0)) else (none)) else (none)) else (none))))) else (none)) else (none)) else ((some (([] : List Int) : List Int)).bind fun y406 => (if 0 ≤ x5 then (if x5 ≤ (wrap64 ((x0.length : Int) - x388011)) then (if (wrap64 ((x0.length : Int) - x388011)) ≤ (x0.length : Int) then (if y406.length + ((x0.take ((wrap64 ((x0.length : Int) - x388011)) : Int).toNat).drop (x5 : Int).toNat).length < 140737488355328 then (some (x388000, x388001, x388002, x388003, x388004, x388005, x388006, x388007, x388008, x388009, (y406 ++ ((x0.take ((wrap64 ((x0.length : Int) - x388011)) : Int).toNat).drop (x5 : Int).toNat)), x388011, 0)) else (none)) else (none)) else (none)) else (none)))
def crossbarref06_Read.f (k : Nat) (l0 : List Int) : Option (Bool × Bool × Bool × Int × Int × Int × Int × List Int × Int × List Int × List Int × Int × Int) := if (l0.length : Int) > 65535 then (some (false, false, false, 0, 0, 0, 0, ([] : List Int), 0, ([] : List Int), ([] : List Int), 0, 4)) else ((crossbarref05_Read.f k l0).bind fun bt374 => (if bt374.2.2.2.2.2.2.2.2.2 = 0 then (if bt374.2.1 = true then (if (wrap64 ((l0.length : Int) - bt374.2.2.2.2.2.2.2.2.1)) < 4 then (some (false, false, false, 0, 0, 0, 0, ([] : List Int), 0, ([] : List Int), ([] : List Int), 0, 2)) else ((crossbarref05_Num.f k l0 (wrap64 (bt374.2.2.2.2.2.2.2.2.1 + 2)) 2).bind fun t388 => (if (wrap64 ((wrap64 ((l0.length : Int) - bt374.2.2.2.2.2.2.2.2.1)) - 4)) < (wrap64 (4 * (wrap64 (t388)))) then (some (false, false, false, 0, 0, 0, 0, ([] : List Int), 0, ([] : List Int), ([] : List Int), 0, 2)) else ((crossbarref05_Num.f k l0 bt374.2.2.2.2.2.2.2.2.1 2).bind fun t389 => ((some (([] : List Int) : List Int)).bind fun y390 => (if 0 ≤ (wrap64 (bt374.2.2.2.2.2.2.2.2.1 + 4)) then (if (wrap64 (bt374.2.2.2.2.2.2.2.2.1 + 4)) ≤ (wrap64 ((wrap64 (bt374.2.2.2.2.2.2.2.2.1 + 4)) + (wrap64 (4 * (wrap64 (t388)))))) then (if (wrap64 ((wrap64 (bt374.2.2.2.2.2.2.2.2.1 + 4)) + (wrap64 (4 * (wrap64 (t388)))))) ≤ (l0.length : Int) then (if y390.length + ((l0.take ((wrap64 ((wrap64 (bt374.2.2.2.2.2.2.2.2.1 + 4)) + (wrap64 (4 * (wrap64 (t388)))))) : Int).toNat).drop ((wrap64 (bt374.2.2.2.2.2.2.2.2.1 + 4)) : Int).toNat).length < 140737488355328 then (crossbarref06_Read.j0 k l0 (wrap64 ((wrap64 (bt374.2.2.2.2.2.2.2.2.1 + 4)) + (wrap64 (4 * (wrap64 (t388)))))) bt374.1 bt374.2.1 bt374.2.2.1 bt374.2.2.2.1 bt374.2.2.2.2.1 bt374.2.2.2.2.2.1 bt374.2.2.2.2.2.2.1 bt374.2.2.2.2.2.2.2.1 bt374.1 bt374.2.1 bt374.2.2.1 bt374.2.2.2.1 bt374.2.2.2.2.1 bt374.2.2.2.2.2.1 bt374.2.2.2.2.2.2.1 bt374.2.2.2.2.2.2.2.1 (IntKind.u16.wrap (t389)) (y390 ++ ((l0.take ((wrap64 ((wrap64 (bt374.2.2.2.2.2.2.2.2.1 + 4)) + (wrap64 (4 * (wrap64 (t388)))))) : Int).toNat).drop ((wrap64 (bt374.2.2.2.2.2.2.2.2.1 + 4)) : Int).toNat)) 0) else (none)) else (none)) else (none)) else (none))))))) else (crossbarref06_Read.j0 k l0 bt374.2.2.2.2.2.2.2.2.1 bt374.1 bt374.2.1 bt374.2.2.1 bt374.2.2.2.1 bt374.2.2.2.2.1 bt374.2.2.2.2.2.1 bt374.2.2.2.2.2.2.1 bt374.2.2.2.2.2.2.2.1 bt374.1 bt374.2.1 bt374.2.2.1 bt374.2.2.2.1 bt374.2.2.2.2.1 bt374.2.2.2.2.2.1 bt374.2.2.2.2.2.2.1 bt374.2.2.2.2.2.2.2.1 0 ([] : List Int) 0)) else (some (false, false, false, 0, 0, 0, 0, ([] : List Int), 0, ([] : List Int), ([] : List Int), 0, bt374.2.2.2.2.2.2.2.2.2))))
theorem crossbarref06_Read.mono_l : ∀ k, (∀ y0 y1 y2 y3 y4 y5 y6 y7 y8 y9 y10 y11 y12 y13 y14 y15 y16 y17 y18 y19 y20, LeO (crossbarref06_Read.j0 k y0 y1 y2 y3 y4 y5 y6 y7 y8 y9 y10 y11 y12 y13 y14 y15 y16 y17 y18 y19 y20) (crossbarref06_Read.j0 (k + 1) y0 y1 y2 y3 y4 y5 y6 y7 y8 y9 y10 y11 y12 y13 y14 y15 y16 y17 y18 y19 y20))
  | 0 => fun _ _ _ _ _ _ _ _ _ _ _ _ _ _ _ _ _ _ _ _ _ r h => by simp [crossbarref06_Read.j0] at h
  | k + 1 => by
    have ih0 := crossbarref06_Read.mono_l k
    intro y0 y1 y2 y3 y4 y5 y6 y7 y8 y9 y10 y11 y12 y13 y14 y15 y16 y17 y18 y19 y20
    unfold crossbarref06_Read.j0
    repeat' first
    | (with_reducible exact ih0 _ _ _ _ _ _ _ _ _ _ _ _ _ _ _ _ _ _ _ _ _)
    | (with_reducible exact crossbarref05_Num.mono _ _ _ _)
    | (with_reducible exact crossbarref05_Read.mono _ _)
    | (with_reducible exact LeO.refl _)
    | (with_reducible exact LeO.none _)
    | (with_reducible refine LeO.ite ?_ ?_)
    | (with_reducible refine LeO.bind ?_ (fun _ => ?_))
    | exact ih0 _ _ _ _ _ _ _ _ _ _ _ _ _ _ _ _ _ _ _ _ _
    | exact crossbarref05_Num.mono _ _ _ _
    | exact crossbarref05_Read.mono _ _
    | exact LeO.none _
    | refine LeO.ite ?_ ?_
    | refine LeO.bind ?_ (fun _ => ?_)
theorem crossbarref06_Read.mono : ∀ a0 k, LeO (crossbarref06_Read.f k a0) (crossbarref06_Read.f (k + 1) a0) := by
  intro a0 k
  have ih0 := crossbarref06_Read.mono_l k
  unfold crossbarref06_Read.f
  repeat' first
      | (with_reducible exact ih0 _ _ _ _ _ _ _ _ _ _ _ _ _ _ _ _ _ _ _ _ _)
      | (with_reducible exact crossbarref05_Num.mono _ _ _ _)
      | (with_reducible exact crossbarref05_Read.mono _ _)
      | (with_reducible exact LeO.refl _)
      | (with_reducible exact LeO.none _)
      | (with_reducible refine LeO.ite ?_ ?_)
      | (with_reducible refine LeO.bind ?_ (fun _ => ?_))
      | exact ih0 _ _ _ _ _ _ _ _ _ _ _ _ _ _ _ _ _ _ _ _ _
      | exact crossbarref05_Num.mono _ _ _ _
      | exact crossbarref05_Read.mono _ _
      | exact LeO.none _
      | refine LeO.ite ?_ ?_
      | refine LeO.bind ?_ (fun _ => ?_)
set_option maxHeartbeats 8000000 in
set_option maxRecDepth 100000 in
theorem crossbarref06_Read.calls (k : Nat) (A0 : Option Addr) (c0 : Nat) (l0 : List Int) (r1 : Bool) (r2 : Bool) (r3 : Bool) (r4 : Int) (r5 : Int) (r6 : Int) (r7 : Int) (r8 : List Int) (r9 : Int) (r10 : List Int) (r11 : List Int) (r12 : Int) (r13 : Int) (w : World) (hr0 : Kd.C (Kd.int .u8) w A0 l0.length l0) (hc0 : l0.length ≤ c0) (h : crossbarref06_Read.f k l0 = some (r1, r2, r3, r4, r5, r6, r7, r8, r9, r10, r11, r12, r13)) :
    Calls Try.prog 26 #[.slice A0 l0.length c0] w fun e w' => ∃ v7_ v9_ v10_ : Value, e = .returned (.tuple #[.agg #[.bool r1, .bool r2, .bool r3, .int .i64 r4, .int .u16 r5, .int .u32 r6, .int .u32 r7, v7_, .int .u16 r9, v9_, v10_, .int .i64 r12], .int .i64 r13]) ∧ Kd.R (Kd.int .u32) 40 w' w.heap.size (fun _ => True) v7_ r8 ∧ Kd.R (Kd.int .u8) 5 w' w.heap.size (fun k_ => some k_ ≠ (v10_ : Value).ownBlock) v9_ r10 ∧ Kd.R (Kd.int .u8) 5 w' w.heap.size (fun k_ => some k_ ≠ (v9_ : Value).ownBlock) v10_ r11 ∧ Below w.heap.size w w' := by
  have hu45 := Try.underlying45
  have hu43 := Try.underlying43
  have HR0 := Aside0.mk hr0
  have HC0 := Aside0.mk hc0
  clear hr0 hc0
  have HB := Aside0.mk (Below.refl w.heap.size w)
  have H : (if (l0.length : Int) > 65535 then (some (false, false, false, 0, 0, 0, 0, ([] : List Int), 0, ([] : List Int), ([] : List Int), 0, 4)) else ((crossbarref05_Read.f k l0).bind fun bt374 => (if bt374.2.2.2.2.2.2.2.2.2 = 0 then (if bt374.2.1 = true then (if (wrap64 ((l0.length : Int) - bt374.2.2.2.2.2.2.2.2.1)) < 4 then (some (false, false, false, 0, 0, 0, 0, ([] : List Int), 0, ([] : List Int), ([] : List Int), 0, 2)) else ((crossbarref05_Num.f k l0 (wrap64 (bt374.2.2.2.2.2.2.2.2.1 + 2)) 2).bind fun t388 => (if (wrap64 ((wrap64 ((l0.length : Int) - bt374.2.2.2.2.2.2.2.2.1)) - 4)) < (wrap64 (4 * (wrap64 (t388)))) then (some (false, false, false, 0, 0, 0, 0, ([] : List Int), 0, ([] : List Int), ([] : List Int), 0, 2)) else ((crossbarref05_Num.f k l0 bt374.2.2.2.2.2.2.2.2.1 2).bind fun t389 => ((some (([] : List Int) : List Int)).bind fun y390 => (if 0 ≤ (wrap64 (bt374.2.2.2.2.2.2.2.2.1 + 4)) then (if (wrap64 (bt374.2.2.2.2.2.2.2.2.1 + 4)) ≤ (wrap64 ((wrap64 (bt374.2.2.2.2.2.2.2.2.1 + 4)) + (wrap64 (4 * (wrap64 (t388)))))) then (if (wrap64 ((wrap64 (bt374.2.2.2.2.2.2.2.2.1 + 4)) + (wrap64 (4 * (wrap64 (t388)))))) ≤ (l0.length : Int) then (if y390.length + ((l0.take ((wrap64 ((wrap64 (bt374.2.2.2.2.2.2.2.2.1 + 4)) + (wrap64 (4 * (wrap64 (t388)))))) : Int).toNat).drop ((wrap64 (bt374.2.2.2.2.2.2.2.2.1 + 4)) : Int).toNat).length < 140737488355328 then (crossbarref06_Read.j0 k l0 (wrap64 ((wrap64 (bt374.2.2.2.2.2.2.2.2.1 + 4)) + (wrap64 (4 * (wrap64 (t388)))))) bt374.1 bt374.2.1 bt374.2.2.1 bt374.2.2.2.1 bt374.2.2.2.2.1 bt374.2.2.2.2.2.1 bt374.2.2.2.2.2.2.1 bt374.2.2.2.2.2.2.2.1 bt374.1 bt374.2.1 bt374.2.2.1 bt374.2.2.2.1 bt374.2.2.2.2.1 bt374.2.2.2.2.2.1 bt374.2.2.2.2.2.2.1 bt374.2.2.2.2.2.2.2.1 (IntKind.u16.wrap (t389)) (y390 ++ ((l0.take ((wrap64 ((wrap64 (bt374.2.2.2.2.2.2.2.2.1 + 4)) + (wrap64 (4 * (wrap64 (t388)))))) : Int).toNat).drop ((wrap64 (bt374.2.2.2.2.2.2.2.2.1 + 4)) : Int).toNat)) 0) else (none)) else (none)) else (none)) else (none))))))) else (crossbarref06_Read.j0 k l0 bt374.2.2.2.2.2.2.2.2.1 bt374.1 bt374.2.1 bt374.2.2.1 bt374.2.2.2.1 bt374.2.2.2.2.1 bt374.2.2.2.2.2.1 bt374.2.2.2.2.2.2.1 bt374.2.2.2.2.2.2.2.1 bt374.1 bt374.2.1 bt374.2.2.1 bt374.2.2.2.1 bt374.2.2.2.2.1 bt374.2.2.2.2.2.1 bt374.2.2.2.2.2.2.1 bt374.2.2.2.2.2.2.2.1 0 ([] : List Int) 0)) else (some (false, false, false, 0, 0, 0, 0, ([] : List Int), 0, ([] : List Int), ([] : List Int), 0, bt374.2.2.2.2.2.2.2.2.2))))) = some (r1, r2, r3, r4, r5, r6, r7, r8, r9, r10, r11, r12, r13) := h
  clear h
  by_cases c2 : (l0.length : Int) > 65535
  · rw [if_pos c2] at H
    have c2b0 : decide (65535 < (l0.length : Int)) = true := decide_eq_true c2
    have c2b1 : decide (65535 < l0.length) = true := decide_eq_true (by omega)
    clear c2
    simp only [Option.some.injEq, Prod.mk.injEq] at H
    obtain ⟨rfl, rfl, rfl, rfl, rfl, rfl, rfl, rfl, rfl, rfl, rfl, rfl, rfl⟩ := H
    go_enter Try.func26, Try.ntmps26
    go_wp2_with (first | ((with_reducible refine gate_dst (N := 2) rfl ?_); refine box_event ?hg (N := 2) ?hd (cs := #[.bool false, .bool false, .bool false, .int .i64 0, .int .u16 0, .int .u32 0, .int .u32 0, .slice none 0 0, .int .u16 0, .slice none 0 0, .slice none 0 0, .int .i64 0]) (t := 45) ?hr ?_; (case hd => rfl); (case hg => rfl); (case hr => first | (go_simp; done) | (go_simp; rfl)); intro gb373 hg w3 hbox hb; have n0_ := bstE HB hb; have BK373 := Aside0.mk (hbox); have GW373 := geE hg HB; have GE373 := geE hg HB; clear HB; have HB := n0_; clear n0_; clear hb hbox hg; obtain ⟨hcz4_0, hcz4_1, hcz4_2, hcz4_3, hcz4_4, hcz4_5, hcz4_6, hcz4_7, hcz4_8, hcz4_9, hcz4_10, hcz4_11, hfz4_0, hfz4_1, hfz4_2, hfz4_3, hfz4_4, hfz4_5, hfz4_6, hfz4_7, hfz4_8, hfz4_9, hfz4_10, hfz4_11⟩ := bc12 BK373.out) | ((with_reducible refine gate_store (t := 45) (p := 2) rfl ?_); refine store_event (t := 45) (p := 2) (v := ?vo_w5) (w1 := ((((((((((((w3.setCell ⟨gb373, 0, none⟩ (.bool false)).setCell ⟨gb373, 1, none⟩ (.bool false)).setCell ⟨gb373, 2, none⟩ (.bool false)).setCell ⟨gb373, 3, none⟩ (.int .i64 0)).setCell ⟨gb373, 4, none⟩ (.int .u16 0)).setCell ⟨gb373, 5, none⟩ (.int .u32 0)).setCell ⟨gb373, 6, none⟩ (.int .u32 0)).setCell ⟨gb373, 7, none⟩ (.slice none 0 0)).setCell ⟨gb373, 8, none⟩ (.int .u16 0)).setCell ⟨gb373, 9, none⟩ (.slice none 0 0)).setCell ⟨gb373, 10, none⟩ (.slice none 0 0)).setCell ⟨gb373, 11, none⟩ (.int .i64 0))) ?hg ?ho ?hn ?hr ?_; (case ho => rfl); (case hg => rfl); (case hn => rfl); (case hr => first | (go_simp; done) | (go_simp; rfl)); intro w5 hw; replace BK373 : Aside0 (w5.heap[gb373]? = some (.cells #[.bool false, .bool false, .bool false, .int .i64 0, .int .u16 0, .int .u32 0, .int .u32 0, .slice none 0 0, .int .u16 0, .slice none 0 0, .slice none 0 0, .int .i64 0] 45 (0, 0))) := ⟨by rw [hw]; apply puts12; exact BK373.out⟩; replace HB := bsE hw HB GE373; clear hw))
    refine bodyPost_ret (results_ct rfl _ _ gb373 45 #[.bool false, .bool false, .bool false, .int .i64 0, .int .u16 0, .int .u32 0, .int .u32 0, .slice none 0 0, .int .u16 0, .slice none 0 0, .slice none 0 0, .int .i64 0] (0, 0) _ rfl (pk BK373) Try.underlying45 rfl (by kernel_rfl)) rfl ?_
    exact ⟨_, _, _, by first | rfl | (simp [errW_none, errW_some] <;> rfl) | (simp [*, errW_none, errW_some] <;> rfl), by first | exact Kd.R_nil _ _ _ _ _ | exact Kd.N_nil _ _ _ _ _ | exact Kd.V_nil _ _ _ _ _ | exact Kd.Q_nil _ _ _ _ _ | exact Kd.S_nil _ _ _ _ _, by first | exact Kd.R_nil _ _ _ _ _ | exact Kd.N_nil _ _ _ _ _ | exact Kd.V_nil _ _ _ _ _ | exact Kd.Q_nil _ _ _ _ _ | exact Kd.S_nil _ _ _ _ _, by first | exact Kd.R_nil _ _ _ _ _ | exact Kd.N_nil _ _ _ _ _ | exact Kd.V_nil _ _ _ _ _ | exact Kd.Q_nil _ _ _ _ _ | exact Kd.S_nil _ _ _ _ _, by repeat (first | (with_reducible first | exact HB.out | apply below_alloc | apply pw_below_drewN | apply below_drew1 | refine below_set ?_ GE373.out) | exact HB.out)⟩
  rw [if_neg c2] at H
  have c2b0 : decide (65535 < (l0.length : Int)) = false := decide_eq_false c2
  have c2b1 : decide (65535 < l0.length) = false := decide_eq_false (by omega)
  clear c2
  replace H := Option.bind_eq_some_iff.mp H
  obtain ⟨⟨t374, t375, t376, t377, t378, t379, t380, t381, t384, t385⟩, A60, H⟩ := H
  replace H : (if t385 = 0 then (if t375 = true then (if (wrap64 ((l0.length : Int) - t384)) < 4 then (some (false, false, false, 0, 0, 0, 0, ([] : List Int), 0, ([] : List Int), ([] : List Int), 0, 2)) else ((crossbarref05_Num.f k l0 (wrap64 (t384 + 2)) 2).bind fun t388 => (if (wrap64 ((wrap64 ((l0.length : Int) - t384)) - 4)) < (wrap64 (4 * (wrap64 (t388)))) then (some (false, false, false, 0, 0, 0, 0, ([] : List Int), 0, ([] : List Int), ([] : List Int), 0, 2)) else ((crossbarref05_Num.f k l0 t384 2).bind fun t389 => ((some (([] : List Int) : List Int)).bind fun y390 => (if 0 ≤ (wrap64 (t384 + 4)) then (if (wrap64 (t384 + 4)) ≤ (wrap64 ((wrap64 (t384 + 4)) + (wrap64 (4 * (wrap64 (t388)))))) then (if (wrap64 ((wrap64 (t384 + 4)) + (wrap64 (4 * (wrap64 (t388)))))) ≤ (l0.length : Int) then (if y390.length + ((l0.take ((wrap64 ((wrap64 (t384 + 4)) + (wrap64 (4 * (wrap64 (t388)))))) : Int).toNat).drop ((wrap64 (t384 + 4)) : Int).toNat).length < 140737488355328 then (crossbarref06_Read.j0 k l0 (wrap64 ((wrap64 (t384 + 4)) + (wrap64 (4 * (wrap64 (t388)))))) t374 t375 t376 t377 t378 t379 t380 t381 t374 t375 t376 t377 t378 t379 t380 t381 (IntKind.u16.wrap (t389)) (y390 ++ ((l0.take ((wrap64 ((wrap64 (t384 + 4)) + (wrap64 (4 * (wrap64 (t388)))))) : Int).toNat).drop ((wrap64 (t384 + 4)) : Int).toNat)) 0) else (none)) else (none)) else (none)) else (none))))))) else (crossbarref06_Read.j0 k l0 t384 t374 t375 t376 t377 t378 t379 t380 t381 t374 t375 t376 t377 t378 t379 t380 t381 0 ([] : List Int) 0)) else (some (false, false, false, 0, 0, 0, 0, ([] : List Int), 0, ([] : List Int), ([] : List Int), 0, t385))) = some (r1, r2, r3, r4, r5, r6, r7, r8, r9, r10, r11, r12, r13) := H
  have A6 := Aside0.mk A60
  clear A60
  by_cases c7 : t385 = 0
  · rw [if_pos c7] at H
    have c7b0 : (t385 == 0) = true := beq_iff_eq.mpr c7
    have c7b1 : (t385 != 0) = false := bne_eq_false_iff_eq.mpr c7
    clear c7
    have HC8 := Aside0.mk H
    clear H
    go_enter Try.func26, Try.ntmps26
    go_upto_if 26 with (first | ((with_reducible refine gate_dst (N := 2) rfl ?_); refine box_event ?hg (N := 2) ?hd (cs := #[.bool false, .bool false, .bool false, .int .i64 0, .int .u16 0, .int .u32 0, .int .u32 0, .slice none 0 0, .int .u16 0, .slice none 0 0, .slice none 0 0, .int .i64 0]) (t := 45) ?hr ?_; (case hd => rfl); (case hg => rfl); (case hr => first | (go_simp; done) | (go_simp; rfl)); intro gb373 hg w9 hbox hb; have n0_ := bstE HB hb; have BK373 := Aside0.mk (hbox); have GW373 := geE hg HB; have GE373 := geE hg HB; clear HB; have HB := n0_; clear n0_; clear hb hbox hg) | ((with_reducible refine gate_callee (f := 42) rfl ?_); refine goesL_ (some 15) rfl rfl Try.func42 (by kernel_rfl) rfl #[.slice A0 l0.length c0] rfl (by (try simp only [List.map_toArray, List.map_cons, List.map_nil]); first | done | rfl | (simp only [List.length_drop, List.length_take]; rfl)) ?_; (with_reducible refine (crossbarref05_Read.calls k _ _ l0 t374 t375 t376 t377 t378 t379 t380 t381 t384 t385 _ ?side1 ?side2 A6.out).mono ?_); (case side1 => repeat (first | exact (Kd.C_below HR0.out HB.out) | (with_reducible refine Kd.C_alloc ?_ _) | (with_reducible refine Kd.C_drewN ?_ _) | (with_reducible refine Kd.C_drew ?_))); (case side2 => exact HC0.out); rintro e w10 ⟨v382, rfl, ho0, hb⟩; refine ⟨_, rfl, ?_⟩; have HO383 := Aside0.mk (Kd.R_lower ho0 (below_size (pB HB))); replace BK373 := bbE BK373 hb; replace HB := bstE HB hb; (try clear hb); (try clear hb2); (try clear hk); (try clear hi); (try clear ho0)) | ((with_reducible refine gate_dst (N := 4) rfl ?_); refine box_event ?hg (N := 4) ?hd (cs := #[.bool false, .bool false, .bool false, .int .i64 0, .int .u16 0, .int .u32 0, .int .u32 0, .slice none 0 0]) (t := 43) ?hr ?_; (case hd => rfl); (case hg => rfl); (case hr => first | (go_simp; done) | (go_simp; rfl)); intro gb386 hg w11 hbox hb; replace HO383 := rbE HO383 hb; have n1_ := bbE BK373 hb; have n2_ := bstE HB hb; have BK386 := Aside0.mk (hbox); have GW386 := geE hg HB; have GE386 := geE hg HB; have NB373_386 := nlE hg BK373; have NB386_373 := ngE hg BK373; clear BK373; clear HB; have BK373 := n1_; have HB := n2_; clear n1_ n2_; clear hb hbox hg; have hnb12 := NB386_373.out; have hnc12 := NB373_386.out; obtain ⟨hcz13_0, hcz13_1, hcz13_2, hcz13_3, hcz13_4, hcz13_5, hcz13_6, hcz13_7, hfz13_0, hfz13_1, hfz13_2, hfz13_3, hfz13_4, hfz13_5, hfz13_6, hfz13_7⟩ := bc8 BK386.out; obtain ⟨Ao14, co14, eo14⟩ := Kd.R_slice HO383.out; subst eo14) | ((with_reducible refine gate_store (t := 43) (p := 4) rfl ?_); refine store_event (t := 43) (p := 4) (v := ?vo_w15) (w1 := ((((((((w11.setCell ⟨gb386, 0, none⟩ (.bool t374)).setCell ⟨gb386, 1, none⟩ (.bool t375)).setCell ⟨gb386, 2, none⟩ (.bool t376)).setCell ⟨gb386, 3, none⟩ (.int .i64 t377)).setCell ⟨gb386, 4, none⟩ (.int .u16 t378)).setCell ⟨gb386, 5, none⟩ (.int .u32 t379)).setCell ⟨gb386, 6, none⟩ (.int .u32 t380)).setCell ⟨gb386, 7, none⟩ (.slice Ao14 t381.length co14))) ?hg ?ho ?hn ?hr ?_; (case ho => rfl); (case hg => rfl); (case hn => rfl); (case hr => first | (go_simp; done) | (go_simp; rfl)); intro w15 hw; replace HO383 := rfE hw HO383 BK386; replace BK373 := bfE hw BK373 NB373_386; replace BK386 : Aside0 (w15.heap[gb386]? = some (.cells #[.bool t374, .bool t375, .bool t376, .int .i64 t377, .int .u16 t378, .int .u32 t379, .int .u32 t380, .slice Ao14 t381.length co14] 43 (0, 0))) := ⟨by rw [hw]; apply puts8; exact BK386.out⟩; replace HB := bsE hw HB GE386; clear hw; obtain ⟨hcz16_0, hcz16_1, hcz16_2, hcz16_3, hcz16_4, hcz16_5, hcz16_6, hcz16_7, hfz16_0, hfz16_1, hfz16_2, hfz16_3, hfz16_4, hfz16_5, hfz16_6, hfz16_7⟩ := bc8 BK386.out) | ((with_reducible refine gate_dst (N := 7) rfl ?_); refine box_event ?hg (N := 7) ?hd (cs := #[.bool false, .bool false, .bool false, .int .i64 0, .int .u16 0, .int .u32 0, .int .u32 0, .slice none 0 0, .int .u16 0, .slice none 0 0, .slice none 0 0, .int .i64 0]) (t := 45) ?hr ?_; (case hd => rfl); (case hg => rfl); (case hr => first | (go_simp; done) | (go_simp; rfl)); intro gb387 hg w17 hbox hb; replace HO383 := rbE HO383 hb; have n1_ := bbE BK373 hb; have n2_ := bbE BK386 hb; have n3_ := bstE HB hb; have BK387 := Aside0.mk (hbox); have GW387 := geE hg HB; have GE387 := geE hg HB; have NB373_387 := nlE hg BK373; have NB387_373 := ngE hg BK373; have NB386_387 := nlE hg BK386; have NB387_386 := ngE hg BK386; clear BK373; clear BK386; clear HB; have BK373 := n1_; have BK386 := n2_; have HB := n3_; clear n1_ n2_ n3_; clear hb hbox hg; have hnb18 := NB387_373.out; have hnc18 := NB373_387.out; have hnb19 := NB387_386.out; have hnc19 := NB386_387.out; obtain ⟨hcz20_0, hcz20_1, hcz20_2, hcz20_3, hcz20_4, hcz20_5, hcz20_6, hcz20_7, hcz20_8, hcz20_9, hcz20_10, hcz20_11, hfz20_0, hfz20_1, hfz20_2, hfz20_3, hfz20_4, hfz20_5, hfz20_6, hfz20_7, hfz20_8, hfz20_9, hfz20_10, hfz20_11⟩ := bc12 BK387.out) | ((with_reducible refine gate_store (t := 45) (p := 7) rfl ?_); refine store_event (t := 45) (p := 7) (v := ?vo_w21) (w1 := ((((((((((((w17.setCell ⟨gb387, 0, none⟩ (.bool t374)).setCell ⟨gb387, 1, none⟩ (.bool t375)).setCell ⟨gb387, 2, none⟩ (.bool t376)).setCell ⟨gb387, 3, none⟩ (.int .i64 t377)).setCell ⟨gb387, 4, none⟩ (.int .u16 t378)).setCell ⟨gb387, 5, none⟩ (.int .u32 t379)).setCell ⟨gb387, 6, none⟩ (.int .u32 t380)).setCell ⟨gb387, 7, none⟩ (.slice Ao14 t381.length co14)).setCell ⟨gb387, 8, none⟩ (.int .u16 0)).setCell ⟨gb387, 9, none⟩ (.slice none 0 0)).setCell ⟨gb387, 10, none⟩ (.slice none 0 0)).setCell ⟨gb387, 11, none⟩ (.int .i64 0))) ?hg ?ho ?hn ?hr ?_; (case ho => rfl); (case hg => rfl); (case hn => rfl); (case hr => first | (go_simp; done) | (go_simp; rfl)); intro w21 hw; replace HO383 := rfE hw HO383 BK387; replace BK373 := bfE hw BK373 NB373_387; replace BK386 := bfE hw BK386 NB386_387; replace BK387 : Aside0 (w21.heap[gb387]? = some (.cells #[.bool t374, .bool t375, .bool t376, .int .i64 t377, .int .u16 t378, .int .u32 t379, .int .u32 t380, .slice Ao14 t381.length co14, .int .u16 0, .slice none 0 0, .slice none 0 0, .int .i64 0] 45 (0, 0))) := ⟨by rw [hw]; apply puts12; exact BK387.out⟩; replace HB := bsE hw HB GE387; clear hw; obtain ⟨hcz22_0, hcz22_1, hcz22_2, hcz22_3, hcz22_4, hcz22_5, hcz22_6, hcz22_7, hfz22_0, hfz22_1, hfz22_2, hfz22_3, hfz22_4, hfz22_5, hfz22_6, hfz22_7⟩ := bc8 BK386.out))
    (try simp only [Act.put, List.setIfInBounds_toArray, List.set_cons_zero, List.set_cons_succ])
    go_cut [5] (fun v5 wc => ∃ (kq : Nat) (x5_7 : Int) (x374000_7 : Bool) (x374001_7 : Bool) (x374002_7 : Bool) (x374003_7 : Int) (x374004_7 : Int) (x374005_7 : Int) (x374006_7 : Int) (x374008_7 : Int) (x374011_7 : Int) (x388008_7 : Int) (x388009_7 : List Int) (u388009 : Value), v5 = .int .i64 x5_7 ∧ Aside0 (crossbarref06_Read.j0 kq l0 x5_7 t374 t375 t376 t377 t378 t379 t380 t381 t374 t375 t376 t377 t378 t379 t380 t381 x388008_7 x388009_7 0 = some (r1, r2, r3, r4, r5, r6, r7, r8, r9, r10, r11, r12, r13)) ∧ Aside0 (kq ≤ k) ∧ Aside0 (Kd.R (Kd.int .u32) 40 wc w.heap.size (fun _ => True) (.slice Ao14 t381.length co14) t381) ∧ Aside0 (Kd.R (Kd.int .u32) 40 wc w.heap.size (fun _ => True) (.slice Ao14 t381.length co14) t381) ∧ Aside0 (Kd.R (Kd.int .u8) 5 wc w.heap.size (fun _ => True) u388009 x388009_7) ∧ Aside0 (wc.heap[gb373]? = some (.cells #[.bool x374000_7, .bool x374001_7, .bool x374002_7, .int .i64 x374003_7, .int .u16 x374004_7, .int .u32 x374005_7, .int .u32 x374006_7, (.slice none 0 0), .int .u16 x374008_7, (.slice none 0 0), (.slice none 0 0), .int .i64 x374011_7] 45 (0, 0))) ∧ Aside0 (wc.heap[gb386]? = some (.cells #[.bool t374, .bool t375, .bool t376, .int .i64 t377, .int .u16 t378, .int .u32 t379, .int .u32 t380, (.slice Ao14 t381.length co14)] 43 (0, 0))) ∧ Aside0 (wc.heap[gb387]? = some (.cells #[.bool t374, .bool t375, .bool t376, .int .i64 t377, .int .u16 t378, .int .u32 t379, .int .u32 t380, (.slice Ao14 t381.length co14), .int .u16 x388008_7, u388009, (.slice none 0 0), .int .i64 0] 45 (0, 0))) ∧ Aside0 (Below w.heap.size w wc))
    case first =>
      have H := HC8.out
      clear HC8
      by_cases c23 : t375 = true
      · subst c23
        have H1 : (if (wrap64 ((l0.length : Int) - t384)) < 4 then (some (false, false, false, 0, 0, 0, 0, ([] : List Int), 0, ([] : List Int), ([] : List Int), 0, 2)) else ((crossbarref05_Num.f k l0 (wrap64 (t384 + 2)) 2).bind fun t388 => (if (wrap64 ((wrap64 ((l0.length : Int) - t384)) - 4)) < (wrap64 (4 * (wrap64 (t388)))) then (some (false, false, false, 0, 0, 0, 0, ([] : List Int), 0, ([] : List Int), ([] : List Int), 0, 2)) else ((crossbarref05_Num.f k l0 t384 2).bind fun t389 => ((some (([] : List Int) : List Int)).bind fun y390 => (if 0 ≤ (wrap64 (t384 + 4)) then (if (wrap64 (t384 + 4)) ≤ (wrap64 ((wrap64 (t384 + 4)) + (wrap64 (4 * (wrap64 (t388)))))) then (if (wrap64 ((wrap64 (t384 + 4)) + (wrap64 (4 * (wrap64 (t388)))))) ≤ (l0.length : Int) then (if y390.length + ((l0.take ((wrap64 ((wrap64 (t384 + 4)) + (wrap64 (4 * (wrap64 (t388)))))) : Int).toNat).drop ((wrap64 (t384 + 4)) : Int).toNat).length < 140737488355328 then (crossbarref06_Read.j0 k l0 (wrap64 ((wrap64 (t384 + 4)) + (wrap64 (4 * (wrap64 (t388)))))) t374 true t376 t377 t378 t379 t380 t381 t374 true t376 t377 t378 t379 t380 t381 (IntKind.u16.wrap (t389)) (y390 ++ ((l0.take ((wrap64 ((wrap64 (t384 + 4)) + (wrap64 (4 * (wrap64 (t388)))))) : Int).toNat).drop ((wrap64 (t384 + 4)) : Int).toNat)) 0) else (none)) else (none)) else (none)) else (none))))))) = some (r1, r2, r3, r4, r5, r6, r7, r8, r9, r10, r11, r12, r13) := by rw [if_pos rfl] at H; exact H
        clear H
        have H := H1
        clear H1
        by_cases c24 : (wrap64 ((l0.length : Int) - t384)) < 4
        · rw [if_pos c24] at H
          have c24b0 : decide ((wrap64 ((l0.length : Int) - t384)) < 4) = true := decide_eq_true c24
          clear c24
          (first | rw [c24b0] | (simp only [i64_w, i32_w]; rw [c24b0]) | skip)
          simp only [Option.some.injEq, Prod.mk.injEq] at H
          obtain ⟨rfl, rfl, rfl, rfl, rfl, rfl, rfl, rfl, rfl, rfl, rfl, rfl, rfl⟩ := H
          have hnb25 := NB373_386.out
          have hnc25 := NB386_373.out
          have hnb26 := NB373_387.out
          have hnc26 := NB387_373.out
          obtain ⟨hcz27_0, hcz27_1, hcz27_2, hcz27_3, hcz27_4, hcz27_5, hcz27_6, hcz27_7, hcz27_8, hcz27_9, hcz27_10, hcz27_11, hfz27_0, hfz27_1, hfz27_2, hfz27_3, hfz27_4, hfz27_5, hfz27_6, hfz27_7, hfz27_8, hfz27_9, hfz27_10, hfz27_11⟩ := bc12 BK373.out
          go_wp2_with (first | ((with_reducible refine gate_store (t := 45) (p := 2) rfl ?_); refine store_event (t := 45) (p := 2) (v := ?vo_w28) (w1 := ((((((((((((w21.setCell ⟨gb373, 0, none⟩ (.bool false)).setCell ⟨gb373, 1, none⟩ (.bool false)).setCell ⟨gb373, 2, none⟩ (.bool false)).setCell ⟨gb373, 3, none⟩ (.int .i64 0)).setCell ⟨gb373, 4, none⟩ (.int .u16 0)).setCell ⟨gb373, 5, none⟩ (.int .u32 0)).setCell ⟨gb373, 6, none⟩ (.int .u32 0)).setCell ⟨gb373, 7, none⟩ (.slice none 0 0)).setCell ⟨gb373, 8, none⟩ (.int .u16 0)).setCell ⟨gb373, 9, none⟩ (.slice none 0 0)).setCell ⟨gb373, 10, none⟩ (.slice none 0 0)).setCell ⟨gb373, 11, none⟩ (.int .i64 0))) ?hg ?ho ?hn ?hr ?_; (case ho => rfl); (case hg => rfl); (case hn => rfl); (case hr => first | (go_simp; done) | (go_simp; rfl)); intro w28 hw; replace HO383 := rfE hw HO383 BK373; replace BK373 : Aside0 (w28.heap[gb373]? = some (.cells #[.bool false, .bool false, .bool false, .int .i64 0, .int .u16 0, .int .u32 0, .int .u32 0, .slice none 0 0, .int .u16 0, .slice none 0 0, .slice none 0 0, .int .i64 0] 45 (0, 0))) := ⟨by rw [hw]; apply puts12; exact BK373.out⟩; replace BK386 := bfE hw BK386 NB386_373; replace BK387 := bfE hw BK387 NB387_373; replace HB := bsE hw HB GE373; clear hw))
          refine bodyPost_ret (results_ct rfl _ _ gb373 45 #[.bool false, .bool false, .bool false, .int .i64 0, .int .u16 0, .int .u32 0, .int .u32 0, .slice none 0 0, .int .u16 0, .slice none 0 0, .slice none 0 0, .int .i64 0] (0, 0) _ rfl (pk BK373) Try.underlying45 rfl (by kernel_rfl)) rfl ?_
          exact ⟨_, _, _, by first | rfl | (simp [errW_none, errW_some] <;> rfl) | (simp [*, errW_none, errW_some] <;> rfl), by first | exact Kd.R_nil _ _ _ _ _ | exact Kd.N_nil _ _ _ _ _ | exact Kd.V_nil _ _ _ _ _ | exact Kd.Q_nil _ _ _ _ _ | exact Kd.S_nil _ _ _ _ _, by first | exact Kd.R_nil _ _ _ _ _ | exact Kd.N_nil _ _ _ _ _ | exact Kd.V_nil _ _ _ _ _ | exact Kd.Q_nil _ _ _ _ _ | exact Kd.S_nil _ _ _ _ _, by first | exact Kd.R_nil _ _ _ _ _ | exact Kd.N_nil _ _ _ _ _ | exact Kd.V_nil _ _ _ _ _ | exact Kd.Q_nil _ _ _ _ _ | exact Kd.S_nil _ _ _ _ _, by repeat (first | (with_reducible first | exact HB.out | apply below_alloc | apply pw_below_drewN | apply below_drew1 | refine below_set ?_ GE373.out | refine below_set ?_ GE386.out | refine below_set ?_ GE387.out) | exact HB.out)⟩
        rw [if_neg c24] at H
        have c24b0 : decide ((wrap64 ((l0.length : Int) - t384)) < 4) = false := decide_eq_false c24
        clear c24
        (first | rw [c24b0] | (simp only [i64_w, i32_w]; rw [c24b0]) | skip)
        replace H := Option.bind_eq_some_iff.mp H
        obtain ⟨t388, A290, H⟩ := H
        replace H : (if (wrap64 ((wrap64 ((l0.length : Int) - t384)) - 4)) < (wrap64 (4 * (wrap64 (t388)))) then (some (false, false, false, 0, 0, 0, 0, ([] : List Int), 0, ([] : List Int), ([] : List Int), 0, 2)) else ((crossbarref05_Num.f k l0 t384 2).bind fun t389 => ((some (([] : List Int) : List Int)).bind fun y390 => (if 0 ≤ (wrap64 (t384 + 4)) then (if (wrap64 (t384 + 4)) ≤ (wrap64 ((wrap64 (t384 + 4)) + (wrap64 (4 * (wrap64 (t388)))))) then (if (wrap64 ((wrap64 (t384 + 4)) + (wrap64 (4 * (wrap64 (t388)))))) ≤ (l0.length : Int) then (if y390.length + ((l0.take ((wrap64 ((wrap64 (t384 + 4)) + (wrap64 (4 * (wrap64 (t388)))))) : Int).toNat).drop ((wrap64 (t384 + 4)) : Int).toNat).length < 140737488355328 then (crossbarref06_Read.j0 k l0 (wrap64 ((wrap64 (t384 + 4)) + (wrap64 (4 * (wrap64 (t388)))))) t374 true t376 t377 t378 t379 t380 t381 t374 true t376 t377 t378 t379 t380 t381 (IntKind.u16.wrap (t389)) (y390 ++ ((l0.take ((wrap64 ((wrap64 (t384 + 4)) + (wrap64 (4 * (wrap64 (t388)))))) : Int).toNat).drop ((wrap64 (t384 + 4)) : Int).toNat)) 0) else (none)) else (none)) else (none)) else (none))))) = some (r1, r2, r3, r4, r5, r6, r7, r8, r9, r10, r11, r12, r13) := H
        have A29 := Aside0.mk A290
        clear A290
        by_cases c30 : (wrap64 ((wrap64 ((l0.length : Int) - t384)) - 4)) < (wrap64 (4 * (wrap64 (t388))))
        · rw [if_pos c30] at H
          have c30b0 : decide ((wrap64 ((wrap64 ((l0.length : Int) - t384)) - 4)) < (wrap64 (4 * (wrap64 (t388))))) = true := decide_eq_true c30
          clear c30
          simp only [Option.some.injEq, Prod.mk.injEq] at H
          obtain ⟨rfl, rfl, rfl, rfl, rfl, rfl, rfl, rfl, rfl, rfl, rfl, rfl, rfl⟩ := H
          go_wp2_with (first | ((with_reducible refine gate_callee (f := 43) rfl ?_); refine goesL_ (some 36) rfl rfl Try.func43 (by kernel_rfl) rfl #[.slice A0 l0.length c0, .int .i64 (wrap64 (t384 + 2)), .int .i64 2] rfl (by (try simp only [List.map_toArray, List.map_cons, List.map_nil]); first | done | rfl | (simp only [List.length_drop, List.length_take]; rfl)) ?_; (with_reducible refine (crossbarref05_Num.calls k _ _ l0 (wrap64 (t384 + 2)) 2 t388 _ ?side1 ?side2 A29.out).mono ?_); (case side1 => repeat (first | exact (Kd.C_below HR0.out HB.out) | (with_reducible refine Kd.C_alloc ?_ _) | (with_reducible refine Kd.C_drewN ?_ _) | (with_reducible refine Kd.C_drew ?_))); (case side2 => exact HC0.out); rintro e w' ⟨rfl, ⟨nd, rfl⟩⟩; refine ⟨_, rfl, ?_⟩; (try (rw [drewN_self w21]; generalize hq_ : World.drewN w21 _ = w21; replace HO383 : Aside0 (Kd.R (Kd.int .u32) 40 w21 w.heap.size (fun _ => True) (.slice Ao14 t381.length co14) t381) := ⟨by rw [← hq_]; exact (pR HO383)⟩; replace BK373 : Aside0 (w21.heap[gb373]? = some (.cells #[.bool false, .bool false, .bool false, .int .i64 0, .int .u16 0, .int .u32 0, .int .u32 0, .slice none 0 0, .int .u16 0, .slice none 0 0, .slice none 0 0, .int .i64 0] 45 (0, 0))) := ⟨by rw [← hq_]; exact (pk BK373)⟩; replace BK386 : Aside0 (w21.heap[gb386]? = some (.cells #[.bool t374, .bool true, .bool t376, .int .i64 t377, .int .u16 t378, .int .u32 t379, .int .u32 t380, .slice Ao14 t381.length co14] 43 (0, 0))) := ⟨by rw [← hq_]; exact (pk BK386)⟩; replace BK387 : Aside0 (w21.heap[gb387]? = some (.cells #[.bool t374, .bool true, .bool t376, .int .i64 t377, .int .u16 t378, .int .u32 t379, .int .u32 t380, .slice Ao14 t381.length co14, .int .u16 0, .slice none 0 0, .slice none 0 0, .int .i64 0] 45 (0, 0))) := ⟨by rw [← hq_]; exact (pk BK387)⟩; replace HB : Aside0 (Below w.heap.size w w21) := ⟨by rw [← hq_]; exact (pB HB)⟩; clear hq_)); have hnb31 := NB373_386.out; have hnc31 := NB386_373.out; have hnb32 := NB373_387.out; have hnc32 := NB387_373.out; obtain ⟨hcz33_0, hcz33_1, hcz33_2, hcz33_3, hcz33_4, hcz33_5, hcz33_6, hcz33_7, hcz33_8, hcz33_9, hcz33_10, hcz33_11, hfz33_0, hfz33_1, hfz33_2, hfz33_3, hfz33_4, hfz33_5, hfz33_6, hfz33_7, hfz33_8, hfz33_9, hfz33_10, hfz33_11⟩ := bc12 BK373.out) | ((with_reducible refine gate_store (t := 45) (p := 2) rfl ?_); refine store_event (t := 45) (p := 2) (v := ?vo_w34) (w1 := ((((((((((((w21.setCell ⟨gb373, 0, none⟩ (.bool false)).setCell ⟨gb373, 1, none⟩ (.bool false)).setCell ⟨gb373, 2, none⟩ (.bool false)).setCell ⟨gb373, 3, none⟩ (.int .i64 0)).setCell ⟨gb373, 4, none⟩ (.int .u16 0)).setCell ⟨gb373, 5, none⟩ (.int .u32 0)).setCell ⟨gb373, 6, none⟩ (.int .u32 0)).setCell ⟨gb373, 7, none⟩ (.slice none 0 0)).setCell ⟨gb373, 8, none⟩ (.int .u16 0)).setCell ⟨gb373, 9, none⟩ (.slice none 0 0)).setCell ⟨gb373, 10, none⟩ (.slice none 0 0)).setCell ⟨gb373, 11, none⟩ (.int .i64 0))) ?hg ?ho ?hn ?hr ?_; (case ho => rfl); (case hg => rfl); (case hn => rfl); (case hr => first | (go_simp; done) | (go_simp; rfl)); intro w34 hw; replace HO383 := rfE hw HO383 BK373; replace BK373 : Aside0 (w34.heap[gb373]? = some (.cells #[.bool false, .bool false, .bool false, .int .i64 0, .int .u16 0, .int .u32 0, .int .u32 0, .slice none 0 0, .int .u16 0, .slice none 0 0, .slice none 0 0, .int .i64 0] 45 (0, 0))) := ⟨by rw [hw]; apply puts12; exact BK373.out⟩; replace BK386 := bfE hw BK386 NB386_373; replace BK387 := bfE hw BK387 NB387_373; replace HB := bsE hw HB GE373; clear hw))
          refine bodyPost_ret (results_ct rfl _ _ gb373 45 #[.bool false, .bool false, .bool false, .int .i64 0, .int .u16 0, .int .u32 0, .int .u32 0, .slice none 0 0, .int .u16 0, .slice none 0 0, .slice none 0 0, .int .i64 0] (0, 0) _ rfl (pk BK373) Try.underlying45 rfl (by kernel_rfl)) rfl ?_
          exact ⟨_, _, _, by first | rfl | (simp [errW_none, errW_some] <;> rfl) | (simp [*, errW_none, errW_some] <;> rfl), by first | exact Kd.R_nil _ _ _ _ _ | exact Kd.N_nil _ _ _ _ _ | exact Kd.V_nil _ _ _ _ _ | exact Kd.Q_nil _ _ _ _ _ | exact Kd.S_nil _ _ _ _ _, by first | exact Kd.R_nil _ _ _ _ _ | exact Kd.N_nil _ _ _ _ _ | exact Kd.V_nil _ _ _ _ _ | exact Kd.Q_nil _ _ _ _ _ | exact Kd.S_nil _ _ _ _ _, by first | exact Kd.R_nil _ _ _ _ _ | exact Kd.N_nil _ _ _ _ _ | exact Kd.V_nil _ _ _ _ _ | exact Kd.Q_nil _ _ _ _ _ | exact Kd.S_nil _ _ _ _ _, by repeat (first | (with_reducible first | exact HB.out | apply below_alloc | apply pw_below_drewN | apply below_drew1 | refine below_set ?_ GE373.out | refine below_set ?_ GE386.out | refine below_set ?_ GE387.out) | exact HB.out)⟩
        rw [if_neg c30] at H
        have c30b0 : decide ((wrap64 ((wrap64 ((l0.length : Int) - t384)) - 4)) < (wrap64 (4 * (wrap64 (t388))))) = false := decide_eq_false c30
        clear c30
        replace H := Option.bind_eq_some_iff.mp H
        obtain ⟨t389, A350, H⟩ := H
        replace H : ((some (([] : List Int) : List Int)).bind fun y390 => (if 0 ≤ (wrap64 (t384 + 4)) then (if (wrap64 (t384 + 4)) ≤ (wrap64 ((wrap64 (t384 + 4)) + (wrap64 (4 * (wrap64 (t388)))))) then (if (wrap64 ((wrap64 (t384 + 4)) + (wrap64 (4 * (wrap64 (t388)))))) ≤ (l0.length : Int) then (if y390.length + ((l0.take ((wrap64 ((wrap64 (t384 + 4)) + (wrap64 (4 * (wrap64 (t388)))))) : Int).toNat).drop ((wrap64 (t384 + 4)) : Int).toNat).length < 140737488355328 then (crossbarref06_Read.j0 k l0 (wrap64 ((wrap64 (t384 + 4)) + (wrap64 (4 * (wrap64 (t388)))))) t374 true t376 t377 t378 t379 t380 t381 t374 true t376 t377 t378 t379 t380 t381 (IntKind.u16.wrap (t389)) (y390 ++ ((l0.take ((wrap64 ((wrap64 (t384 + 4)) + (wrap64 (4 * (wrap64 (t388)))))) : Int).toNat).drop ((wrap64 (t384 + 4)) : Int).toNat)) 0) else (none)) else (none)) else (none)) else (none))) = some (r1, r2, r3, r4, r5, r6, r7, r8, r9, r10, r11, r12, r13) := H
        have A35 := Aside0.mk A350
        clear A350
        obtain ⟨y390, hy390⟩ : ∃ y_ : List Int, y_ = (([] : List Int)) := ⟨_, rfl⟩
        replace H : (if 0 ≤ (wrap64 (t384 + 4)) then (if (wrap64 (t384 + 4)) ≤ (wrap64 ((wrap64 (t384 + 4)) + (wrap64 (4 * (wrap64 (t388)))))) then (if (wrap64 ((wrap64 (t384 + 4)) + (wrap64 (4 * (wrap64 (t388)))))) ≤ (l0.length : Int) then (if y390.length + ((l0.take ((wrap64 ((wrap64 (t384 + 4)) + (wrap64 (4 * (wrap64 (t388)))))) : Int).toNat).drop ((wrap64 (t384 + 4)) : Int).toNat).length < 140737488355328 then (crossbarref06_Read.j0 k l0 (wrap64 ((wrap64 (t384 + 4)) + (wrap64 (4 * (wrap64 (t388)))))) t374 true t376 t377 t378 t379 t380 t381 t374 true t376 t377 t378 t379 t380 t381 (IntKind.u16.wrap (t389)) (y390 ++ ((l0.take ((wrap64 ((wrap64 (t384 + 4)) + (wrap64 (4 * (wrap64 (t388)))))) : Int).toNat).drop ((wrap64 (t384 + 4)) : Int).toNat)) 0) else (none)) else (none)) else (none)) else (none)) = some (r1, r2, r3, r4, r5, r6, r7, r8, r9, r10, r11, r12, r13) := by first | (rw [hy390]; with_reducible exact H) | (have H2_ := (Option.bind_some _ _).symm.trans H; rw [hy390]; with_reducible exact H2_) | (have H2_ := (Option.bind_some _ _).symm.trans H; with_reducible exact H2_) | with_reducible exact H | (rw [hy390]; exact H) | exact H
        have Ny390 := Aside0.mk hy390
        clear hy390
        obtain ⟨ji36, hji36⟩ : ∃ j_ : Int, (wrap64 (t384 + 4)) = j_ := ⟨_, rfl⟩
        replace H : (if 0 ≤ (ji36) then (if (ji36) ≤ (wrap64 ((ji36) + (wrap64 (4 * (wrap64 (t388)))))) then (if (wrap64 ((ji36) + (wrap64 (4 * (wrap64 (t388)))))) ≤ (l0.length : Int) then (if y390.length + ((l0.take ((wrap64 ((ji36) + (wrap64 (4 * (wrap64 (t388)))))) : Int).toNat).drop ((ji36) : Int).toNat).length < 140737488355328 then (crossbarref06_Read.j0 k l0 (wrap64 ((ji36) + (wrap64 (4 * (wrap64 (t388)))))) t374 true t376 t377 t378 t379 t380 t381 t374 true t376 t377 t378 t379 t380 t381 (IntKind.u16.wrap (t389)) (y390 ++ ((l0.take ((wrap64 ((ji36) + (wrap64 (4 * (wrap64 (t388)))))) : Int).toNat).drop ((ji36) : Int).toNat)) 0) else (none)) else (none)) else (none)) else (none)) = some (r1, r2, r3, r4, r5, r6, r7, r8, r9, r10, r11, r12, r13) := by first | (rw [hji36] at H; exact H) | (simp only [hji36] at H ⊢; exact H)
        (try rw [hji36] at A29)
        (try rw [hji36] at A35)
        have hji36w : (IntKind.i64.wrap (t384 + 4)) = ji36 := (i64_w _).trans hji36
        by_cases c37 : 0 ≤ (ji36)
        · rw [if_pos c37] at H
          have c37b0 := eq_true c37
          have c37b1 : decide (0 ≤ (ji36)) = true := decide_eq_true c37
          clear c37
          by_cases c38 : (ji36) ≤ (wrap64 ((ji36) + (wrap64 (4 * (wrap64 (t388))))))
          · rw [if_pos c38] at H
            have c38b0 := eq_true c38
            have c38b1 : decide ((ji36) ≤ (wrap64 ((ji36) + (wrap64 (4 * (wrap64 (t388))))))) = true := decide_eq_true c38
            by_cases c39 : (wrap64 ((ji36) + (wrap64 (4 * (wrap64 (t388)))))) ≤ (l0.length : Int)
            · rw [if_pos c39] at H
              have c39b0 := eq_true c39
              have c39b1 : decide ((wrap64 ((ji36) + (wrap64 (4 * (wrap64 (t388)))))) ≤ (l0.length : Int)) = true := decide_eq_true c39
              by_cases c40 : y390.length + ((l0.take ((wrap64 ((ji36) + (wrap64 (4 * (wrap64 (t388)))))) : Int).toNat).drop ((ji36) : Int).toNat).length < 140737488355328
              · rw [if_pos c40] at H
                have LMc40 := Aside0.mk c40
                clear c40
                obtain ⟨y394, hy394⟩ : ∃ y_ : List Int, y_ = (y390 ++ ((l0.take ((wrap64 ((ji36) + (wrap64 (4 * (wrap64 (t388)))))) : Int).toNat).drop ((ji36) : Int).toNat)) := ⟨_, rfl⟩
                replace H : (crossbarref06_Read.j0 k l0 (wrap64 ((ji36) + (wrap64 (4 * (wrap64 (t388)))))) t374 true t376 t377 t378 t379 t380 t381 t374 true t376 t377 t378 t379 t380 t381 (IntKind.u16.wrap (t389)) y394 0) = some (r1, r2, r3, r4, r5, r6, r7, r8, r9, r10, r11, r12, r13) := by first | (rw [hy394]; with_reducible exact H) | (have H2_ := (Option.bind_some _ _).symm.trans H; rw [hy394]; with_reducible exact H2_) | (have H2_ := (Option.bind_some _ _).symm.trans H; with_reducible exact H2_) | with_reducible exact H | (rw [hy394]; exact H) | exact H
                have Ny394 := Aside0.mk hy394
                clear hy394
                have H' := Aside0.mk H
                clear H
                go_wp2_with (first | ((with_reducible refine gate_callee (f := 43) rfl ?_); refine goesL_ (some 36) rfl rfl Try.func43 (by kernel_rfl) rfl #[.slice A0 l0.length c0, .int .i64 (wrap64 (t384 + 2)), .int .i64 2] rfl (by (try simp only [List.map_toArray, List.map_cons, List.map_nil]); first | done | rfl | (simp only [List.length_drop, List.length_take]; rfl)) ?_; (with_reducible refine (crossbarref05_Num.calls k _ _ l0 (wrap64 (t384 + 2)) 2 t388 _ ?side1 ?side2 A29.out).mono ?_); (case side1 => repeat (first | exact (Kd.C_below HR0.out HB.out) | (with_reducible refine Kd.C_alloc ?_ _) | (with_reducible refine Kd.C_drewN ?_ _) | (with_reducible refine Kd.C_drew ?_))); (case side2 => exact HC0.out); rintro e w' ⟨rfl, ⟨nd, rfl⟩⟩; refine ⟨_, rfl, ?_⟩; (try (rw [drewN_self w21]; generalize hq_ : World.drewN w21 _ = w21; replace HO383 : Aside0 (Kd.R (Kd.int .u32) 40 w21 w.heap.size (fun _ => True) (.slice Ao14 t381.length co14) t381) := ⟨by rw [← hq_]; exact (pR HO383)⟩; replace BK373 : Aside0 (w21.heap[gb373]? = some (.cells #[.bool false, .bool false, .bool false, .int .i64 0, .int .u16 0, .int .u32 0, .int .u32 0, .slice none 0 0, .int .u16 0, .slice none 0 0, .slice none 0 0, .int .i64 0] 45 (0, 0))) := ⟨by rw [← hq_]; exact (pk BK373)⟩; replace BK386 : Aside0 (w21.heap[gb386]? = some (.cells #[.bool t374, .bool true, .bool t376, .int .i64 t377, .int .u16 t378, .int .u32 t379, .int .u32 t380, .slice Ao14 t381.length co14] 43 (0, 0))) := ⟨by rw [← hq_]; exact (pk BK386)⟩; replace BK387 : Aside0 (w21.heap[gb387]? = some (.cells #[.bool t374, .bool true, .bool t376, .int .i64 t377, .int .u16 t378, .int .u32 t379, .int .u32 t380, .slice Ao14 t381.length co14, .int .u16 0, .slice none 0 0, .slice none 0 0, .int .i64 0] 45 (0, 0))) := ⟨by rw [← hq_]; exact (pk BK387)⟩; replace HB : Aside0 (Below w.heap.size w w21) := ⟨by rw [← hq_]; exact (pB HB)⟩; clear hq_))) | ((with_reducible refine gate_callee (f := 43) rfl ?_); refine goesL_ (some 49) rfl rfl Try.func43 (by kernel_rfl) rfl #[.slice A0 l0.length c0, .int .i64 t384, .int .i64 2] rfl (by (try simp only [List.map_toArray, List.map_cons, List.map_nil]); first | done | rfl | (simp only [List.length_drop, List.length_take]; rfl)) ?_; (with_reducible refine (crossbarref05_Num.calls k _ _ l0 t384 2 t389 _ ?side1 ?side2 A35.out).mono ?_); (case side1 => repeat (first | exact (Kd.C_below HR0.out HB.out) | (with_reducible refine Kd.C_alloc ?_ _) | (with_reducible refine Kd.C_drewN ?_ _) | (with_reducible refine Kd.C_drew ?_))); (case side2 => exact HC0.out); rintro e w' ⟨rfl, ⟨nd, rfl⟩⟩; refine ⟨_, rfl, ?_⟩; (try (rw [drewN_self w21]; generalize hq_ : World.drewN w21 _ = w21; replace HO383 : Aside0 (Kd.R (Kd.int .u32) 40 w21 w.heap.size (fun _ => True) (.slice Ao14 t381.length co14) t381) := ⟨by rw [← hq_]; exact (pR HO383)⟩; replace BK373 : Aside0 (w21.heap[gb373]? = some (.cells #[.bool false, .bool false, .bool false, .int .i64 0, .int .u16 0, .int .u32 0, .int .u32 0, .slice none 0 0, .int .u16 0, .slice none 0 0, .slice none 0 0, .int .i64 0] 45 (0, 0))) := ⟨by rw [← hq_]; exact (pk BK373)⟩; replace BK386 : Aside0 (w21.heap[gb386]? = some (.cells #[.bool t374, .bool true, .bool t376, .int .i64 t377, .int .u16 t378, .int .u32 t379, .int .u32 t380, .slice Ao14 t381.length co14] 43 (0, 0))) := ⟨by rw [← hq_]; exact (pk BK386)⟩; replace BK387 : Aside0 (w21.heap[gb387]? = some (.cells #[.bool t374, .bool true, .bool t376, .int .i64 t377, .int .u16 t378, .int .u32 t379, .int .u32 t380, .slice Ao14 t381.length co14, .int .u16 0, .slice none 0 0, .slice none 0 0, .int .i64 0] 45 (0, 0))) := ⟨by rw [← hq_]; exact (pk BK387)⟩; replace HB : Aside0 (Below w.heap.size w w21) := ⟨by rw [← hq_]; exact (pB HB)⟩; clear hq_)); have hnb41 := NB387_373.out; have hnc41 := NB373_387.out; have hnb42 := NB387_386.out; have hnc42 := NB386_387.out; obtain ⟨hcz43_0, hcz43_1, hcz43_2, hcz43_3, hcz43_4, hcz43_5, hcz43_6, hcz43_7, hcz43_8, hcz43_9, hcz43_10, hcz43_11, hfz43_0, hfz43_1, hfz43_2, hfz43_3, hfz43_4, hfz43_5, hfz43_6, hfz43_7, hfz43_8, hfz43_9, hfz43_10, hfz43_11⟩ := bc12 BK387.out) | ((with_reducible refine gate_store (t := 39) (p := 51) rfl ?_); refine store_event (t := 39) (p := 51) (v := ?vo_w44) (w1 := (w21.setCell ⟨gb387, 8, none⟩ (.int .u16 (IntKind.u16.wrap (t389))))) ?hg ?ho ?hn ?hr ?_; (case ho => rfl); (case hg => rfl); (case hn => rfl); (case hr => first | (go_simp; done) | (go_simp; rfl)); intro w44 hw; replace HO383 := rfE hw HO383 BK387; replace BK373 := bfE hw BK373 NB373_387; replace BK386 := bfE hw BK386 NB386_387; replace BK387 : Aside0 (w44.heap[gb387]? = some (.cells #[.bool t374, .bool true, .bool t376, .int .i64 t377, .int .u16 t378, .int .u32 t379, .int .u32 t380, .slice Ao14 t381.length co14, .int .u16 (IntKind.u16.wrap (t389)), .slice none 0 0, .slice none 0 0, .int .i64 0] 45 (0, 0))) := ⟨by rw [hw]; exact blk_put BK387.out 8 _ rfl⟩; replace HB := bsE hw HB GE387; clear hw) | ((with_reducible refine gate_dst (N := 52) rfl ?_); refine Kd.R_lit (Kd.int .u8) _ 5 ?hg (N := 52) ?hd (xs := ([] : List Int)) (inner := []) (ok := fun _ => True) (okp := fun _ => True) ?hr ?hp (fun _ hk => hk) trivial (Below.refl _ _) (Nat.le_refl _) (by simp) ?_; (case hd => rfl); (case hg => rfl); (case hr => first | (go_simp; done) | (go_simp; rfl)); (case hp => exact (Reps.none _ _)); intro v391 w45 ho46 hb hg_ hnew_; clear hg_ hnew_; (first | rw [← Ny390.out] at ho46 | (simp only [Int.reduceToNat] at ho46; rw [← Ny390.out] at ho46)); replace HO383 := rbE HO383 hb; have HO392 := Aside0.mk (Kd.R_lower ho46 (below_size (pB HB))); replace BK373 := bbE BK373 hb; replace BK386 := bbE BK386 hb; replace BK387 := bbE BK387 hb; replace HB := bstE HB hb; clear hb ho46; obtain ⟨i047, hi047, _, hsz47, _⟩ := info_parts info5; obtain ⟨A47, hcut47, hA47, hC47⟩ := print_mid_of (P := Try.prog) (Value.int .u8) 0 22 5 .i64 .i64 Try.underlying22 hi047 hsz47 A0 c0 l0 (ji36) (wrap64 ((ji36) + (wrap64 (4 * (wrap64 (t388)))))) (oT (by first | (with_reducible assumption) | assumption)) (by first | omega | exact of_decide_eq_true (by first | (with_reducible assumption) | assumption)) (oT (by first | (with_reducible assumption) | assumption)) HC0.out; have HR393 := Aside0.mk (Kd.C_of_reads (h1 := fun _ => rfl) (hA47 _ (Kd.reads_of_C HR0.out))); have HC393 := Aside0.mk hC47; clear hA47 hC47 hi047 hsz47) | ((with_reducible refine gate_builtin (b := .append) (xs := #[.tmp 52, .tmp 60]) rfl ?_); at_builtin; refine Kd.R_append_rows (Kd.int .u8) (w0 := w) w.heap.size rfl (.tmp 52) (.tmp 60) 22 5 (.int .u8 0) 1 rfl Try.underlying22 info5 rfl (by decide) (by omega) v391 y390 ((l0.take ((wrap64 ((ji36) + (wrap64 (4 * (wrap64 (t388)))))) : Int).toNat).drop ((ji36) : Int).toNat) _ _ _ (fun _ => True) (fun _ => False) rfl rfl ?aO ?aR (fun _ _ h => h) (fun _ h => h.elim) ?aF ?aB ?aS ?aL ?_; (case aR => first | (rw [← show ((l0.take ((wrap64 ((ji36) + (wrap64 (4 * (wrap64 (t388)))))) : Int).toNat).drop ((ji36) : Int).toNat).length = ((wrap64 ((ji36) + (wrap64 (4 * (wrap64 (t388)))))).toNat - (ji36).toNat) from (by rw [List.length_drop, List.length_take]; have h_ : ((wrap64 ((ji36) + (wrap64 (4 * (wrap64 (t388)))))) : Int) ≤ (l0.length : Int) := of_decide_eq_true (by first | (with_reducible assumption) | assumption); omega)]; repeat (first | exact (Kd.C_below HR393.out HB.out) | (with_reducible refine Kd.C_alloc ?_ _) | (with_reducible refine Kd.C_drewN ?_ _) | (with_reducible refine Kd.C_drew ?_))) | (repeat (first | exact (Kd.C_below HR393.out HB.out) | (with_reducible refine Kd.C_alloc ?_ _) | (with_reducible refine Kd.C_drewN ?_ _) | (with_reducible refine Kd.C_drew ?_)))); (case aB => exact (pB HB)); (case aF => exact (fun _ _ => trivial)); (case aO => exact (pR HO392)); (case aS => exact (below_size (pB HB))); (case aL => have := LMc40.out; have hlx_ := (show ((l0.take ((wrap64 ((ji36) + (wrap64 (4 * (wrap64 (t388)))))) : Int).toNat).drop ((ji36) : Int).toNat).length = ((wrap64 ((ji36) + (wrap64 (4 * (wrap64 (t388)))))).toNat - (ji36).toNat) from (by rw [List.length_drop, List.length_take]; have h_ : ((wrap64 ((ji36) + (wrap64 (4 * (wrap64 (t388)))))) : Int) ≤ (l0.length : Int) := of_decide_eq_true (by first | (with_reducible assumption) | assumption); omega)); omega); intro v395 w48 ho hb hg hat; rw [← Ny394.out] at ho; replace BK373 := Aside0.mk (blk_grown (g := gb373) (o := .cells #[.bool false, .bool false, .bool false, .int .i64 0, .int .u16 0, .int .u32 0, .int .u32 0, .slice none 0 0, .int .u16 0, .slice none 0 0, .slice none 0 0, .int .i64 0] 45 (0, 0)) (pk BK373) hg (Kd.R_ne HO392.out BK373.out (by decide))); replace HO383 := Aside0.mk (Kd.R_over' (pR HO383) (Kd.R_typed (pR HO392)) (by decide) hg); replace BK386 := Aside0.mk (blk_grown (g := gb386) (o := .cells #[.bool t374, .bool true, .bool t376, .int .i64 t377, .int .u16 t378, .int .u32 t379, .int .u32 t380, .slice Ao14 t381.length co14] 43 (0, 0)) (pk BK386) hg (Kd.R_ne HO392.out BK386.out (by decide))); replace BK387 := Aside0.mk (blk_grown (g := gb387) (o := .cells #[.bool t374, .bool true, .bool t376, .int .i64 t377, .int .u16 t378, .int .u32 t379, .int .u32 t380, .slice Ao14 t381.length co14, .int .u16 (IntKind.u16.wrap (t389)), .slice none 0 0, .slice none 0 0, .int .i64 0] 45 (0, 0)) (pk BK387) hg (Kd.R_ne HO392.out BK387.out (by decide))); replace HB := Aside0.mk (hb); have HO396 := Aside0.mk (ho); clear HO392; clear ho hb hg hat; obtain ⟨Ao49, co49, eo49⟩ := Kd.R_slice HO396.out; subst eo49; obtain ⟨hcz50_0, hcz50_1, hcz50_2, hcz50_3, hcz50_4, hcz50_5, hcz50_6, hcz50_7, hcz50_8, hcz50_9, hcz50_10, hcz50_11, hfz50_0, hfz50_1, hfz50_2, hfz50_3, hfz50_4, hfz50_5, hfz50_6, hfz50_7, hfz50_8, hfz50_9, hfz50_10, hfz50_11⟩ := bc12 BK387.out) | ((with_reducible refine gate_store (t := 22) (p := 62) rfl ?_); refine store_event (t := 22) (p := 62) (v := ?vo_w51) (w1 := (w48.setCell ⟨gb387, 9, none⟩ (.slice Ao49 y394.length co49))) ?hg ?ho ?hn ?hr ?_; (case ho => rfl); (case hg => rfl); (case hn => rfl); (case hr => first | (go_simp; done) | (go_simp; rfl)); intro w51 hw; replace HO383 := rfE hw HO383 BK387; replace HO396 := rfE hw HO396 BK387; replace BK373 := bfE hw BK373 NB373_387; replace BK386 := bfE hw BK386 NB386_387; replace BK387 : Aside0 (w51.heap[gb387]? = some (.cells #[.bool t374, .bool true, .bool t376, .int .i64 t377, .int .u16 t378, .int .u32 t379, .int .u32 t380, .slice Ao14 t381.length co14, .int .u16 (IntKind.u16.wrap (t389)), .slice Ao49 y394.length co49, .slice none 0 0, .int .i64 0] 45 (0, 0))) := ⟨by rw [hw]; exact blk_put BK387.out 9 _ rfl⟩; replace HB := bsE hw HB GE387; clear hw))
                go_meet
                case rel => exact ⟨_, (wrap64 ((ji36) + (wrap64 (4 * (wrap64 (t388)))))), (false), (false), (false), (0), (0), (0), (0), (0), (0), (IntKind.u16.wrap (t389)), (y394), (.slice Ao49 y394.length co49), (by first | rfl | (simp; done) | (simp only [← hji36] <;> (first | rfl | simp)) | (simp [*]; done)), H', ⟨by first | omega | exact Nat.le_refl _⟩, ⟨by (with_reducible repeat (first | apply Kd.R_alloc | apply Kd.R_drewN | apply Kd.R_drew)); exact HO383.out⟩, ⟨by (with_reducible repeat (first | apply Kd.R_alloc | apply Kd.R_drewN | apply Kd.R_drew)); exact HO383.out⟩, ⟨by (with_reducible repeat (first | apply Kd.R_alloc | apply Kd.R_drewN | apply Kd.R_drew)); exact HO396.out⟩, ⟨by (with_reducible repeat (first | refine blk_drewN ?_ _ | refine blk_drew ?_ | refine blk_alloc ?_ _)); exact BK373.out⟩, ⟨by (with_reducible repeat (first | refine blk_drewN ?_ _ | refine blk_drew ?_ | refine blk_alloc ?_ _)); exact BK386.out⟩, ⟨by (with_reducible repeat (first | refine blk_drewN ?_ _ | refine blk_drew ?_ | refine blk_alloc ?_ _)); exact BK387.out⟩, ⟨by repeat (first | (with_reducible first | exact HB.out | apply below_alloc | apply pw_below_drewN | apply below_drew1 | refine below_set ?_ GE373.out | refine below_set ?_ GE386.out | refine below_set ?_ GE387.out) | exact HB.out)⟩⟩
              rw [if_neg c40] at H
              exact absurd H (by simp)
            rw [if_neg c39] at H
            exact absurd H (by simp)
          rw [if_neg c38] at H
          exact absurd H (by simp)
        rw [if_neg c37] at H
        exact absurd H (by simp)
      replace c23 := Bool.eq_false_iff.mpr c23
      subst c23
      have H1 : (crossbarref06_Read.j0 k l0 t384 t374 false t376 t377 t378 t379 t380 t381 t374 false t376 t377 t378 t379 t380 t381 0 ([] : List Int) 0) = some (r1, r2, r3, r4, r5, r6, r7, r8, r9, r10, r11, r12, r13) := by rw [if_neg (show ¬ (false = true) by decide)] at H; exact H
      clear H
      have H := H1
      clear H1
      have H' := Aside0.mk H
      clear H
      go_wp2
      go_meet
      case rel => exact ⟨_, (t384), (false), (false), (false), (0), (0), (0), (0), (0), (0), (0), (([] : List Int)), (.slice none 0 0), (by first | rfl | (simp; done) | (simp [*]; done)), H', ⟨by first | omega | exact Nat.le_refl _⟩, ⟨by (with_reducible repeat (first | apply Kd.R_alloc | apply Kd.R_drewN | apply Kd.R_drew)); exact HO383.out⟩, ⟨by (with_reducible repeat (first | apply Kd.R_alloc | apply Kd.R_drewN | apply Kd.R_drew)); exact HO383.out⟩, ⟨by first | exact Kd.R_nil _ _ _ _ _ | exact Kd.N_nil _ _ _ _ _ | exact Kd.V_nil _ _ _ _ _ | exact Kd.Q_nil _ _ _ _ _ | exact Kd.S_nil _ _ _ _ _⟩, ⟨by (with_reducible repeat (first | refine blk_drewN ?_ _ | refine blk_drew ?_ | refine blk_alloc ?_ _)); exact BK373.out⟩, ⟨by (with_reducible repeat (first | refine blk_drewN ?_ _ | refine blk_drew ?_ | refine blk_alloc ?_ _)); exact BK386.out⟩, ⟨by (with_reducible repeat (first | refine blk_drewN ?_ _ | refine blk_drew ?_ | refine blk_alloc ?_ _)); exact BK387.out⟩, ⟨by repeat (first | (with_reducible first | exact HB.out | apply below_alloc | apply pw_below_drewN | apply below_drew1 | refine below_set ?_ GE373.out | refine below_set ?_ GE386.out | refine below_set ?_ GE387.out) | exact HB.out)⟩⟩
    case rest =>
      clear HC8
      try clear c1
      try clear c2
      try clear c2b0
      try clear c2b1
      try clear p2
      try clear c3
      try clear c4
      try clear p6
      try clear c7
      try clear c7b0
      try clear c7b1
      try clear c12
      try clear c18
      try clear c19
      try clear c23
      try clear c24
      try clear c24b0
      try clear c25
      try clear c26
      try clear c30
      try clear c30b0
      try clear c31
      try clear c32
      try clear c37
      try clear c37b0
      try clear c37b1
      try clear c38
      try clear c38b0
      try clear c38b1
      try clear c39
      try clear c39b0
      try clear c39b1
      try clear c40
      try clear c41
      try clear c42
      try clear c43
      try clear hcz13_0
      try clear hcz13_1
      try clear hcz13_2
      try clear hcz13_3
      try clear hcz13_4
      try clear hcz13_5
      try clear hcz13_6
      try clear hcz13_7
      try clear hcz16_0
      try clear hcz16_1
      try clear hcz16_2
      try clear hcz16_3
      try clear hcz16_4
      try clear hcz16_5
      try clear hcz16_6
      try clear hcz16_7
      try clear hcz20_0
      try clear hcz20_1
      try clear hcz20_10
      try clear hcz20_11
      try clear hcz20_2
      try clear hcz20_3
      try clear hcz20_4
      try clear hcz20_5
      try clear hcz20_6
      try clear hcz20_7
      try clear hcz20_8
      try clear hcz20_9
      try clear hcz22_0
      try clear hcz22_1
      try clear hcz22_2
      try clear hcz22_3
      try clear hcz22_4
      try clear hcz22_5
      try clear hcz22_6
      try clear hcz22_7
      try clear hcz27_0
      try clear hcz27_1
      try clear hcz27_10
      try clear hcz27_11
      try clear hcz27_2
      try clear hcz27_3
      try clear hcz27_4
      try clear hcz27_5
      try clear hcz27_6
      try clear hcz27_7
      try clear hcz27_8
      try clear hcz27_9
      try clear hcz33_0
      try clear hcz33_1
      try clear hcz33_10
      try clear hcz33_11
      try clear hcz33_2
      try clear hcz33_3
      try clear hcz33_4
      try clear hcz33_5
      try clear hcz33_6
      try clear hcz33_7
      try clear hcz33_8
      try clear hcz33_9
      try clear hcz43_0
      try clear hcz43_1
      try clear hcz43_10
      try clear hcz43_11
      try clear hcz43_2
      try clear hcz43_3
      try clear hcz43_4
      try clear hcz43_5
      try clear hcz43_6
      try clear hcz43_7
      try clear hcz43_8
      try clear hcz43_9
      try clear hcz4_0
      try clear hcz4_1
      try clear hcz4_10
      try clear hcz4_11
      try clear hcz4_2
      try clear hcz4_3
      try clear hcz4_4
      try clear hcz4_5
      try clear hcz4_6
      try clear hcz4_7
      try clear hcz4_8
      try clear hcz4_9
      try clear hcz50_0
      try clear hcz50_1
      try clear hcz50_10
      try clear hcz50_11
      try clear hcz50_2
      try clear hcz50_3
      try clear hcz50_4
      try clear hcz50_5
      try clear hcz50_6
      try clear hcz50_7
      try clear hcz50_8
      try clear hcz50_9
      try clear hfz13_0
      try clear hfz13_1
      try clear hfz13_2
      try clear hfz13_3
      try clear hfz13_4
      try clear hfz13_5
      try clear hfz13_6
      try clear hfz13_7
      try clear hfz16_0
      try clear hfz16_1
      try clear hfz16_2
      try clear hfz16_3
      try clear hfz16_4
      try clear hfz16_5
      try clear hfz16_6
      try clear hfz16_7
      try clear hfz20_0
      try clear hfz20_1
      try clear hfz20_10
      try clear hfz20_11
      try clear hfz20_2
      try clear hfz20_3
      try clear hfz20_4
      try clear hfz20_5
      try clear hfz20_6
      try clear hfz20_7
      try clear hfz20_8
      try clear hfz20_9
      try clear hfz22_0
      try clear hfz22_1
      try clear hfz22_2
      try clear hfz22_3
      try clear hfz22_4
      try clear hfz22_5
      try clear hfz22_6
      try clear hfz22_7
      try clear hfz27_0
      try clear hfz27_1
      try clear hfz27_10
      try clear hfz27_11
      try clear hfz27_2
      try clear hfz27_3
      try clear hfz27_4
      try clear hfz27_5
      try clear hfz27_6
      try clear hfz27_7
      try clear hfz27_8
      try clear hfz27_9
      try clear hfz33_0
      try clear hfz33_1
      try clear hfz33_10
      try clear hfz33_11
      try clear hfz33_2
      try clear hfz33_3
      try clear hfz33_4
      try clear hfz33_5
      try clear hfz33_6
      try clear hfz33_7
      try clear hfz33_8
      try clear hfz33_9
      try clear hfz43_0
      try clear hfz43_1
      try clear hfz43_10
      try clear hfz43_11
      try clear hfz43_2
      try clear hfz43_3
      try clear hfz43_4
      try clear hfz43_5
      try clear hfz43_6
      try clear hfz43_7
      try clear hfz43_8
      try clear hfz43_9
      try clear hfz4_0
      try clear hfz4_1
      try clear hfz4_10
      try clear hfz4_11
      try clear hfz4_2
      try clear hfz4_3
      try clear hfz4_4
      try clear hfz4_5
      try clear hfz4_6
      try clear hfz4_7
      try clear hfz4_8
      try clear hfz4_9
      try clear hfz50_0
      try clear hfz50_1
      try clear hfz50_10
      try clear hfz50_11
      try clear hfz50_2
      try clear hfz50_3
      try clear hfz50_4
      try clear hfz50_5
      try clear hfz50_6
      try clear hfz50_7
      try clear hfz50_8
      try clear hfz50_9
      obtain ⟨kq, x5_7, x374000_7, x374001_7, x374002_7, x374003_7, x374004_7, x374005_7, x374006_7, x374008_7, x374011_7, x388008_7, x388009_7, u388009, rfl, HA, HJ7, HO_387007, HO_388007, HO_388009, BK373, BK386, BK387, HB⟩ := hcut
      cases kq with
      | zero => exact absurd HA.out (by simp [crossbarref06_Read.j0])
      | succ kj7 =>
        have H := HA.out
        clear HA
        simp only [crossbarref06_Read.j0] at H
        by_cases c52 : t374 = true
        · subst c52
          have H1 : (if 0 ≤ x5_7 then (if x5_7 ≤ (l0.length : Int) then ((crossbarref03_Trail.f (l0.drop (x5_7 : Int).toNat)).bind fun t398 => (if t398 = 0 then (some (false, false, false, 0, 0, 0, 0, ([] : List Int), 0, ([] : List Int), ([] : List Int), 0, 5)) else ((some (([] : List Int) : List Int)).bind fun y399 => (if x5_7 ≤ (wrap64 ((l0.length : Int) - t398)) then (if (wrap64 ((l0.length : Int) - t398)) ≤ (l0.length : Int) then (if y399.length + ((l0.take ((wrap64 ((l0.length : Int) - t398)) : Int).toNat).drop (x5_7 : Int).toNat).length < 140737488355328 then (some (true, t375, t376, t377, t378, t379, t380, t381, x388008_7, x388009_7, (y399 ++ ((l0.take ((wrap64 ((l0.length : Int) - t398)) : Int).toNat).drop (x5_7 : Int).toNat)), t398, 0)) else (none)) else (none)) else (none))))) else (none)) else (none)) = some (r1, r2, r3, r4, r5, r6, r7, r8, r9, r10, r11, r12, r13) := by rw [if_pos rfl] at H; exact H
          clear H
          have H := H1
          clear H1
          by_cases c53 : 0 ≤ x5_7
          · rw [if_pos c53] at H
            have c53b0 := eq_true c53
            have c53b1 : decide (0 ≤ x5_7) = true := decide_eq_true c53
            clear c53
            by_cases c54 : x5_7 ≤ (l0.length : Int)
            · rw [if_pos c54] at H
              have c54b0 := eq_true c54
              have c54b1 : decide (x5_7 ≤ (l0.length : Int)) = true := decide_eq_true c54
              clear c54
              replace H := Option.bind_eq_some_iff.mp H
              obtain ⟨t398, A550, H⟩ := H
              replace H : (if t398 = 0 then (some (false, false, false, 0, 0, 0, 0, ([] : List Int), 0, ([] : List Int), ([] : List Int), 0, 5)) else ((some (([] : List Int) : List Int)).bind fun y399 => (if x5_7 ≤ (wrap64 ((l0.length : Int) - t398)) then (if (wrap64 ((l0.length : Int) - t398)) ≤ (l0.length : Int) then (if y399.length + ((l0.take ((wrap64 ((l0.length : Int) - t398)) : Int).toNat).drop (x5_7 : Int).toNat).length < 140737488355328 then (some (true, t375, t376, t377, t378, t379, t380, t381, x388008_7, x388009_7, (y399 ++ ((l0.take ((wrap64 ((l0.length : Int) - t398)) : Int).toNat).drop (x5_7 : Int).toNat)), t398, 0)) else (none)) else (none)) else (none)))) = some (r1, r2, r3, r4, r5, r6, r7, r8, r9, r10, r11, r12, r13) := H
              have A55 := Aside0.mk A550
              clear A550
              by_cases c56 : t398 = 0
              · rw [if_pos c56] at H
                have c56b0 : (t398 == 0) = true := beq_iff_eq.mpr c56
                have c56b1 : (t398 != 0) = false := bne_eq_false_iff_eq.mpr c56
                clear c56
                simp only [Option.some.injEq, Prod.mk.injEq] at H
                obtain ⟨rfl, rfl, rfl, rfl, rfl, rfl, rfl, rfl, rfl, rfl, rfl, rfl, rfl⟩ := H
                have hnb57 := NB386_373.out
                have hnc57 := NB373_386.out
                have hnb58 := NB386_387.out
                have hnc58 := NB387_386.out
                obtain ⟨hcz59_0, hcz59_1, hcz59_2, hcz59_3, hcz59_4, hcz59_5, hcz59_6, hcz59_7, hfz59_0, hfz59_1, hfz59_2, hfz59_3, hfz59_4, hfz59_5, hfz59_6, hfz59_7⟩ := bc8 BK386.out
                obtain ⟨i060, hi060, _, hsz60, _⟩ := info_parts info5
                obtain ⟨A60, hcut60, hA60, hC60⟩ := print_drop_of (P := Try.prog) (Value.int .u8) 0 22 5 .i64 Try.underlying22 hi060 hsz60 A0 c0 l0 x5_7 (oT (by first | (with_reducible assumption) | assumption)) (oT (by first | (with_reducible assumption) | assumption)) HC0.out
                have HR397 := Aside0.mk (Kd.C_of_reads (h1 := fun _ => rfl) (hA60 _ (Kd.reads_of_C HR0.out)))
                have HC397 := Aside0.mk hC60
                clear hA60 hC60 hi060 hsz60
                go_wp2_with (first | ((with_reducible refine gate_callee (f := 44) rfl ?_); refine goesL_ (some 72) rfl rfl Try.func44 (by kernel_rfl) rfl #[.slice A60 (l0.drop (x5_7 : Int).toNat).length (c0 - x5_7.toNat)] rfl (by (try simp only [List.map_toArray, List.map_cons, List.map_nil]); first | done | (rw [show (l0.drop (x5_7 : Int).toNat).length = (l0.length - x5_7.toNat) from List.length_drop] <;> rfl) | rfl | (simp only [List.length_drop, List.length_take]; rfl)) ?_; (with_reducible refine (crossbarref03_Trail.calls _ _ (l0.drop (x5_7 : Int).toNat) t398 _ ?side1 ?side2 A55.out).mono ?_); (case side1 => repeat (first | exact (Kd.C_below HR397.out HB.out) | (with_reducible refine Kd.C_alloc ?_ _) | (with_reducible refine Kd.C_drewN ?_ _) | (with_reducible refine Kd.C_drew ?_))); (case side2 => exact HC397.out); rintro e w' ⟨rfl, ⟨nd, rfl⟩⟩; refine ⟨_, rfl, ?_⟩; (try (rw [drewN_self wc]; generalize hq_ : World.drewN wc _ = wc; replace HO_387007 : Aside0 (Kd.R (Kd.int .u32) 40 wc w.heap.size (fun _ => True) (.slice Ao14 t381.length co14) t381) := ⟨by rw [← hq_]; exact (pR HO_387007)⟩; replace HO_388007 : Aside0 (Kd.R (Kd.int .u32) 40 wc w.heap.size (fun _ => True) (.slice Ao14 t381.length co14) t381) := ⟨by rw [← hq_]; exact (pR HO_388007)⟩; replace HO_388009 : Aside0 (Kd.R (Kd.int .u8) 5 wc w.heap.size (fun _ => True) u388009 x388009_7) := ⟨by rw [← hq_]; exact (pR HO_388009)⟩; replace BK373 : Aside0 (wc.heap[gb373]? = some (.cells #[.bool x374000_7, .bool x374001_7, .bool x374002_7, .int .i64 x374003_7, .int .u16 x374004_7, .int .u32 x374005_7, .int .u32 x374006_7, .slice none 0 0, .int .u16 x374008_7, .slice none 0 0, .slice none 0 0, .int .i64 x374011_7] 45 (0, 0))) := ⟨by rw [← hq_]; exact (pk BK373)⟩; replace BK386 : Aside0 (wc.heap[gb386]? = some (.cells #[.bool true, .bool t375, .bool t376, .int .i64 t377, .int .u16 t378, .int .u32 t379, .int .u32 t380, .slice Ao14 t381.length co14] 43 (0, 0))) := ⟨by rw [← hq_]; exact (pk BK386)⟩; replace BK387 : Aside0 (wc.heap[gb387]? = some (.cells #[.bool true, .bool t375, .bool t376, .int .i64 t377, .int .u16 t378, .int .u32 t379, .int .u32 t380, .slice Ao14 t381.length co14, .int .u16 x388008_7, u388009, .slice none 0 0, .int .i64 0] 45 (0, 0))) := ⟨by rw [← hq_]; exact (pk BK387)⟩; replace HB : Aside0 (Below w.heap.size w wc) := ⟨by rw [← hq_]; exact (pB HB)⟩; clear hq_)); have hnb61 := NB387_373.out; have hnc61 := NB373_387.out; obtain ⟨hcz62_0, hcz62_1, hcz62_2, hcz62_3, hcz62_4, hcz62_5, hcz62_6, hcz62_7, hcz62_8, hcz62_9, hcz62_10, hcz62_11, hfz62_0, hfz62_1, hfz62_2, hfz62_3, hfz62_4, hfz62_5, hfz62_6, hfz62_7, hfz62_8, hfz62_9, hfz62_10, hfz62_11⟩ := bc12 BK387.out) | ((with_reducible refine gate_store (t := 3) (p := 73) rfl ?_); refine store_event (t := 3) (p := 73) (v := ?vo_w63) (w1 := (wc.setCell ⟨gb387, 11, none⟩ (.int .i64 t398))) ?hg ?ho ?hn ?hr ?_; (case ho => rfl); (case hg => rfl); (case hn => rfl); (case hr => first | (go_simp; done) | (go_simp; rfl)); intro w63 hw; replace HO_387007 := rfE hw HO_387007 BK387; replace HO_388007 := rfE hw HO_388007 BK387; replace HO_388009 := rfE hw HO_388009 BK387; replace BK373 := bfE hw BK373 NB373_387; replace BK386 := bfE hw BK386 NB386_387; replace BK387 : Aside0 (w63.heap[gb387]? = some (.cells #[.bool true, .bool t375, .bool t376, .int .i64 t377, .int .u16 t378, .int .u32 t379, .int .u32 t380, .slice Ao14 t381.length co14, .int .u16 x388008_7, u388009, .slice none 0 0, .int .i64 t398] 45 (0, 0))) := ⟨by rw [hw]; exact blk_put BK387.out 11 _ rfl⟩; replace HB := bsE hw HB GE387; clear hw; obtain ⟨hcz64_0, hcz64_1, hcz64_2, hcz64_3, hcz64_4, hcz64_5, hcz64_6, hcz64_7, hcz64_8, hcz64_9, hcz64_10, hcz64_11, hfz64_0, hfz64_1, hfz64_2, hfz64_3, hfz64_4, hfz64_5, hfz64_6, hfz64_7, hfz64_8, hfz64_9, hfz64_10, hfz64_11⟩ := bc12 BK387.out; obtain ⟨hcz65_0, hcz65_1, hcz65_2, hcz65_3, hcz65_4, hcz65_5, hcz65_6, hcz65_7, hcz65_8, hcz65_9, hcz65_10, hcz65_11, hfz65_0, hfz65_1, hfz65_2, hfz65_3, hfz65_4, hfz65_5, hfz65_6, hfz65_7, hfz65_8, hfz65_9, hfz65_10, hfz65_11⟩ := bc12 BK373.out) | ((with_reducible refine gate_store (t := 45) (p := 2) rfl ?_); refine store_event (t := 45) (p := 2) (v := ?vo_w66) (w1 := ((((((((((((w63.setCell ⟨gb373, 0, none⟩ (.bool false)).setCell ⟨gb373, 1, none⟩ (.bool false)).setCell ⟨gb373, 2, none⟩ (.bool false)).setCell ⟨gb373, 3, none⟩ (.int .i64 0)).setCell ⟨gb373, 4, none⟩ (.int .u16 0)).setCell ⟨gb373, 5, none⟩ (.int .u32 0)).setCell ⟨gb373, 6, none⟩ (.int .u32 0)).setCell ⟨gb373, 7, none⟩ (.slice none 0 0)).setCell ⟨gb373, 8, none⟩ (.int .u16 0)).setCell ⟨gb373, 9, none⟩ (.slice none 0 0)).setCell ⟨gb373, 10, none⟩ (.slice none 0 0)).setCell ⟨gb373, 11, none⟩ (.int .i64 0))) ?hg ?ho ?hn ?hr ?_; (case ho => rfl); (case hg => rfl); (case hn => rfl); (case hr => first | (go_simp; done) | (go_simp; rfl)); intro w66 hw; replace HO_387007 := rfE hw HO_387007 BK373; replace HO_388007 := rfE hw HO_388007 BK373; replace HO_388009 := rfE hw HO_388009 BK373; replace BK373 : Aside0 (w66.heap[gb373]? = some (.cells #[.bool false, .bool false, .bool false, .int .i64 0, .int .u16 0, .int .u32 0, .int .u32 0, .slice none 0 0, .int .u16 0, .slice none 0 0, .slice none 0 0, .int .i64 0] 45 (0, 0))) := ⟨by rw [hw]; apply puts12; exact BK373.out⟩; replace BK386 := bfE hw BK386 NB386_373; replace BK387 := bfE hw BK387 NB387_373; replace HB := bsE hw HB GE373; clear hw))
                refine bodyPost_ret (results_ct rfl _ _ gb373 45 #[.bool false, .bool false, .bool false, .int .i64 0, .int .u16 0, .int .u32 0, .int .u32 0, .slice none 0 0, .int .u16 0, .slice none 0 0, .slice none 0 0, .int .i64 0] (0, 0) _ rfl (pk BK373) Try.underlying45 rfl (by kernel_rfl)) rfl ?_
                exact ⟨_, _, _, by first | rfl | (simp [errW_none, errW_some] <;> rfl) | (simp [*, errW_none, errW_some] <;> rfl), by first | exact Kd.R_nil _ _ _ _ _ | exact Kd.N_nil _ _ _ _ _ | exact Kd.V_nil _ _ _ _ _ | exact Kd.Q_nil _ _ _ _ _ | exact Kd.S_nil _ _ _ _ _, by first | exact Kd.R_nil _ _ _ _ _ | exact Kd.N_nil _ _ _ _ _ | exact Kd.V_nil _ _ _ _ _ | exact Kd.Q_nil _ _ _ _ _ | exact Kd.S_nil _ _ _ _ _, by first | exact Kd.R_nil _ _ _ _ _ | exact Kd.N_nil _ _ _ _ _ | exact Kd.V_nil _ _ _ _ _ | exact Kd.Q_nil _ _ _ _ _ | exact Kd.S_nil _ _ _ _ _, by repeat (first | (with_reducible first | exact HB.out | apply below_alloc | apply pw_below_drewN | apply below_drew1 | refine below_set ?_ GE373.out | refine below_set ?_ GE386.out | refine below_set ?_ GE387.out) | exact HB.out)⟩
              rw [if_neg c56] at H
              have c56b0 : (t398 == 0) = false := beq_eq_false_iff_ne.mpr c56
              have c56b1 : (t398 != 0) = true := bne_iff_ne.mpr c56
              obtain ⟨y399, hy399⟩ : ∃ y_ : List Int, y_ = (([] : List Int)) := ⟨_, rfl⟩
              replace H : (if x5_7 ≤ (wrap64 ((l0.length : Int) - t398)) then (if (wrap64 ((l0.length : Int) - t398)) ≤ (l0.length : Int) then (if y399.length + ((l0.take ((wrap64 ((l0.length : Int) - t398)) : Int).toNat).drop (x5_7 : Int).toNat).length < 140737488355328 then (some (true, t375, t376, t377, t378, t379, t380, t381, x388008_7, x388009_7, (y399 ++ ((l0.take ((wrap64 ((l0.length : Int) - t398)) : Int).toNat).drop (x5_7 : Int).toNat)), t398, 0)) else (none)) else (none)) else (none)) = some (r1, r2, r3, r4, r5, r6, r7, r8, r9, r10, r11, r12, r13) := by first | (rw [hy399]; with_reducible exact H) | (have H2_ := (Option.bind_some _ _).symm.trans H; rw [hy399]; with_reducible exact H2_) | (have H2_ := (Option.bind_some _ _).symm.trans H; with_reducible exact H2_) | with_reducible exact H | (rw [hy399]; exact H) | exact H
              have Ny399 := Aside0.mk hy399
              clear hy399
              have c67b0 := eq_true (of_decide_eq_true (by first | (with_reducible assumption) | assumption) : 0 ≤ x5_7)
              by_cases c68 : x5_7 ≤ (wrap64 ((l0.length : Int) - t398))
              · rw [if_pos c68] at H
                have c68b0 := eq_true c68
                have c68b1 : decide (x5_7 ≤ (wrap64 ((l0.length : Int) - t398))) = true := decide_eq_true c68
                clear c68
                by_cases c69 : (wrap64 ((l0.length : Int) - t398)) ≤ (l0.length : Int)
                · rw [if_pos c69] at H
                  have c69b0 := eq_true c69
                  have c69b1 : decide ((wrap64 ((l0.length : Int) - t398)) ≤ (l0.length : Int)) = true := decide_eq_true c69
                  clear c69
                  by_cases c70 : y399.length + ((l0.take ((wrap64 ((l0.length : Int) - t398)) : Int).toNat).drop (x5_7 : Int).toNat).length < 140737488355328
                  · rw [if_pos c70] at H
                    have LMc70 := Aside0.mk c70
                    clear c70
                    obtain ⟨y403, hy403⟩ : ∃ y_ : List Int, y_ = (y399 ++ ((l0.take ((wrap64 ((l0.length : Int) - t398)) : Int).toNat).drop (x5_7 : Int).toNat)) := ⟨_, rfl⟩
                    replace H : (some (true, t375, t376, t377, t378, t379, t380, t381, x388008_7, x388009_7, y403, t398, 0)) = some (r1, r2, r3, r4, r5, r6, r7, r8, r9, r10, r11, r12, r13) := by first | (rw [hy403]; with_reducible exact H) | (have H2_ := (Option.bind_some _ _).symm.trans H; rw [hy403]; with_reducible exact H2_) | (have H2_ := (Option.bind_some _ _).symm.trans H; with_reducible exact H2_) | with_reducible exact H | (rw [hy403]; exact H) | exact H
                    have Ny403 := Aside0.mk hy403
                    clear hy403
                    simp only [Option.some.injEq, Prod.mk.injEq] at H
                    obtain ⟨rfl, rfl, rfl, rfl, rfl, rfl, rfl, rfl, rfl, rfl, rfl, rfl, rfl⟩ := H
                    have hnb71 := NB386_373.out
                    have hnc71 := NB373_386.out
                    have hnb72 := NB386_387.out
                    have hnc72 := NB387_386.out
                    obtain ⟨hcz73_0, hcz73_1, hcz73_2, hcz73_3, hcz73_4, hcz73_5, hcz73_6, hcz73_7, hfz73_0, hfz73_1, hfz73_2, hfz73_3, hfz73_4, hfz73_5, hfz73_6, hfz73_7⟩ := bc8 BK386.out
                    obtain ⟨i074, hi074, _, hsz74, _⟩ := info_parts info5
                    obtain ⟨A74, hcut74, hA74, hC74⟩ := print_drop_of (P := Try.prog) (Value.int .u8) 0 22 5 .i64 Try.underlying22 hi074 hsz74 A0 c0 l0 x5_7 (oT (by first | (with_reducible assumption) | assumption)) (oT (by first | (with_reducible assumption) | assumption)) HC0.out
                    have HR397 := Aside0.mk (Kd.C_of_reads (h1 := fun _ => rfl) (hA74 _ (Kd.reads_of_C HR0.out)))
                    have HC397 := Aside0.mk hC74
                    clear hA74 hC74 hi074 hsz74
                    go_wp2_with (first | ((with_reducible refine gate_callee (f := 44) rfl ?_); refine goesL_ (some 72) rfl rfl Try.func44 (by kernel_rfl) rfl #[.slice A74 (l0.drop (x5_7 : Int).toNat).length (c0 - x5_7.toNat)] rfl (by (try simp only [List.map_toArray, List.map_cons, List.map_nil]); first | done | (rw [show (l0.drop (x5_7 : Int).toNat).length = (l0.length - x5_7.toNat) from List.length_drop] <;> rfl) | rfl | (simp only [List.length_drop, List.length_take]; rfl)) ?_; (with_reducible refine (crossbarref03_Trail.calls _ _ (l0.drop (x5_7 : Int).toNat) t398 _ ?side1 ?side2 A55.out).mono ?_); (case side1 => repeat (first | exact (Kd.C_below HR397.out HB.out) | (with_reducible refine Kd.C_alloc ?_ _) | (with_reducible refine Kd.C_drewN ?_ _) | (with_reducible refine Kd.C_drew ?_))); (case side2 => exact HC397.out); rintro e w' ⟨rfl, ⟨nd, rfl⟩⟩; refine ⟨_, rfl, ?_⟩; (try (rw [drewN_self wc]; generalize hq_ : World.drewN wc _ = wc; replace HO_387007 : Aside0 (Kd.R (Kd.int .u32) 40 wc w.heap.size (fun _ => True) (.slice Ao14 t381.length co14) t381) := ⟨by rw [← hq_]; exact (pR HO_387007)⟩; replace HO_388007 : Aside0 (Kd.R (Kd.int .u32) 40 wc w.heap.size (fun _ => True) (.slice Ao14 t381.length co14) t381) := ⟨by rw [← hq_]; exact (pR HO_388007)⟩; replace HO_388009 : Aside0 (Kd.R (Kd.int .u8) 5 wc w.heap.size (fun _ => True) u388009 x388009_7) := ⟨by rw [← hq_]; exact (pR HO_388009)⟩; replace BK373 : Aside0 (wc.heap[gb373]? = some (.cells #[.bool x374000_7, .bool x374001_7, .bool x374002_7, .int .i64 x374003_7, .int .u16 x374004_7, .int .u32 x374005_7, .int .u32 x374006_7, .slice none 0 0, .int .u16 x374008_7, .slice none 0 0, .slice none 0 0, .int .i64 x374011_7] 45 (0, 0))) := ⟨by rw [← hq_]; exact (pk BK373)⟩; replace BK386 : Aside0 (wc.heap[gb386]? = some (.cells #[.bool true, .bool t375, .bool t376, .int .i64 t377, .int .u16 t378, .int .u32 t379, .int .u32 t380, .slice Ao14 t381.length co14] 43 (0, 0))) := ⟨by rw [← hq_]; exact (pk BK386)⟩; replace BK387 : Aside0 (wc.heap[gb387]? = some (.cells #[.bool true, .bool t375, .bool t376, .int .i64 t377, .int .u16 t378, .int .u32 t379, .int .u32 t380, .slice Ao14 t381.length co14, .int .u16 x388008_7, u388009, .slice none 0 0, .int .i64 0] 45 (0, 0))) := ⟨by rw [← hq_]; exact (pk BK387)⟩; replace HB : Aside0 (Below w.heap.size w wc) := ⟨by rw [← hq_]; exact (pB HB)⟩; clear hq_)); have hnb75 := NB387_373.out; have hnc75 := NB373_387.out; obtain ⟨hcz76_0, hcz76_1, hcz76_2, hcz76_3, hcz76_4, hcz76_5, hcz76_6, hcz76_7, hcz76_8, hcz76_9, hcz76_10, hcz76_11, hfz76_0, hfz76_1, hfz76_2, hfz76_3, hfz76_4, hfz76_5, hfz76_6, hfz76_7, hfz76_8, hfz76_9, hfz76_10, hfz76_11⟩ := bc12 BK387.out) | ((with_reducible refine gate_store (t := 3) (p := 73) rfl ?_); refine store_event (t := 3) (p := 73) (v := ?vo_w77) (w1 := (wc.setCell ⟨gb387, 11, none⟩ (.int .i64 t398))) ?hg ?ho ?hn ?hr ?_; (case ho => rfl); (case hg => rfl); (case hn => rfl); (case hr => first | (go_simp; done) | (go_simp; rfl)); intro w77 hw; replace HO_387007 := rfE hw HO_387007 BK387; replace HO_388007 := rfE hw HO_388007 BK387; replace HO_388009 := rfE hw HO_388009 BK387; replace BK373 := bfE hw BK373 NB373_387; replace BK386 := bfE hw BK386 NB386_387; replace BK387 : Aside0 (w77.heap[gb387]? = some (.cells #[.bool true, .bool t375, .bool t376, .int .i64 t377, .int .u16 t378, .int .u32 t379, .int .u32 t380, .slice Ao14 t381.length co14, .int .u16 x388008_7, u388009, .slice none 0 0, .int .i64 t398] 45 (0, 0))) := ⟨by rw [hw]; exact blk_put BK387.out 11 _ rfl⟩; replace HB := bsE hw HB GE387; clear hw; obtain ⟨hcz78_0, hcz78_1, hcz78_2, hcz78_3, hcz78_4, hcz78_5, hcz78_6, hcz78_7, hcz78_8, hcz78_9, hcz78_10, hcz78_11, hfz78_0, hfz78_1, hfz78_2, hfz78_3, hfz78_4, hfz78_5, hfz78_6, hfz78_7, hfz78_8, hfz78_9, hfz78_10, hfz78_11⟩ := bc12 BK387.out) | ((with_reducible refine gate_dst (N := 78) rfl ?_); refine Kd.R_lit (Kd.int .u8) _ 5 ?hg (N := 78) ?hd (xs := ([] : List Int)) (inner := []) (ok := fun _ => True) (okp := fun _ => True) ?hr ?hp (fun _ hk => hk) trivial (Below.refl _ _) (Nat.le_refl _) (by simp) ?_; (case hd => rfl); (case hg => rfl); (case hr => first | (go_simp; done) | (go_simp; rfl)); (case hp => exact (Reps.none _ _)); intro v400 w79 ho80 hb hg_ hnew_; clear hg_ hnew_; (first | rw [← Ny399.out] at ho80 | (simp only [Int.reduceToNat] at ho80; rw [← Ny399.out] at ho80)); replace HO_387007 := rbE HO_387007 hb; replace HO_388007 := rbE HO_388007 hb; have n2_ := Aside0.mk (Kd.R_elder' (pR HO_388009) (Kd.R_base ho80) hb); have HO401 := Aside0.mk (Kd.R_lower (Kd.R_new' ho80 (Kd.R_lt (pR HO_388009))) (below_size (pB HB))); replace BK373 := bbE BK373 hb; replace BK386 := bbE BK386 hb; replace BK387 := bbE BK387 hb; replace HB := bstE HB hb; clear HO_388009; have HO_388009 := n2_; clear n2_; clear hb ho80; obtain ⟨hcz81_0, hcz81_1, hcz81_2, hcz81_3, hcz81_4, hcz81_5, hcz81_6, hcz81_7, hcz81_8, hcz81_9, hcz81_10, hcz81_11, hfz81_0, hfz81_1, hfz81_2, hfz81_3, hfz81_4, hfz81_5, hfz81_6, hfz81_7, hfz81_8, hfz81_9, hfz81_10, hfz81_11⟩ := bc12 BK387.out; obtain ⟨i082, hi082, _, hsz82, _⟩ := info_parts info5; obtain ⟨A82, hcut82, hA82, hC82⟩ := print_mid_of (P := Try.prog) (Value.int .u8) 0 22 5 .i64 .i64 Try.underlying22 hi082 hsz82 A0 c0 l0 x5_7 (wrap64 ((l0.length : Int) - t398)) (oT (by first | (with_reducible assumption) | assumption)) (by first | omega | exact of_decide_eq_true (by first | (with_reducible assumption) | assumption)) (oT (by first | (with_reducible assumption) | assumption)) HC0.out; have HR402 := Aside0.mk (Kd.C_of_reads (h1 := fun _ => rfl) (hA82 _ (Kd.reads_of_C HR0.out))); have HC402 := Aside0.mk hC82; clear hA82 hC82 hi082 hsz82) | ((with_reducible refine gate_builtin (b := .append) (xs := #[.tmp 78, .tmp 86]) rfl ?_); at_builtin; refine Kd.R_append_rows (Kd.int .u8) (w0 := w) w.heap.size rfl (.tmp 78) (.tmp 86) 22 5 (.int .u8 0) 1 rfl Try.underlying22 info5 rfl (by decide) (by omega) v400 y399 ((l0.take ((wrap64 ((l0.length : Int) - t398)) : Int).toNat).drop (x5_7 : Int).toNat) _ _ _ (fun k_ => some k_ ≠ (u388009 : Value).ownBlock) (fun _ => False) rfl rfl ?aO ?aR (fun _ _ h => h) (fun _ h => h.elim) ?aF ?aB ?aS ?aL ?_; (case aR => first | (rw [← show ((l0.take ((wrap64 ((l0.length : Int) - t398)) : Int).toNat).drop (x5_7 : Int).toNat).length = ((wrap64 ((l0.length : Int) - t398)).toNat - x5_7.toNat) from (by rw [List.length_drop, List.length_take]; have h_ : ((wrap64 ((l0.length : Int) - t398)) : Int) ≤ (l0.length : Int) := of_decide_eq_true (by first | (with_reducible assumption) | assumption); omega)]; repeat (first | exact (Kd.C_below HR402.out HB.out) | (with_reducible refine Kd.C_alloc ?_ _) | (with_reducible refine Kd.C_drewN ?_ _) | (with_reducible refine Kd.C_drew ?_))) | (repeat (first | exact (Kd.C_below HR402.out HB.out) | (with_reducible refine Kd.C_alloc ?_ _) | (with_reducible refine Kd.C_drewN ?_ _) | (with_reducible refine Kd.C_drew ?_)))); (case aB => exact (pB HB)); (case aF => exact (fun k_ hk => Kd.fresh' (Kd.R_lt (pR HO_388009)) k_ hk)); (case aO => exact (by (with_reducible repeat (first | apply Kd.R_alloc | apply Kd.R_drewN | apply Kd.R_drew)); exact Kd.R_mono HO401.out (fun _ hk => hk.2))); (case aS => exact (below_size (pB HB))); (case aL => have := LMc70.out; have hlx_ := (show ((l0.take ((wrap64 ((l0.length : Int) - t398)) : Int).toNat).drop (x5_7 : Int).toNat).length = ((wrap64 ((l0.length : Int) - t398)).toNat - x5_7.toNat) from (by rw [List.length_drop, List.length_take]; have h_ : ((wrap64 ((l0.length : Int) - t398)) : Int) ≤ (l0.length : Int) := of_decide_eq_true (by first | (with_reducible assumption) | assumption); omega)); omega); intro v404 w83 ho hb hg hat; rw [← Ny403.out] at ho; replace HO_387007 := Aside0.mk (Kd.R_over' (pR HO_387007) (Kd.R_typed (pR HO401)) (by decide) hg); replace HO_388007 := Aside0.mk (Kd.R_over' (pR HO_388007) (Kd.R_typed (pR HO401)) (by decide) hg); replace HO_388009 := Aside0.mk (Kd.R_after (ok := (fun _ => True)) (pR HO_388009) hg hat); replace BK373 := Aside0.mk (blk_grown (g := gb373) (o := .cells #[.bool x374000_7, .bool x374001_7, .bool x374002_7, .int .i64 x374003_7, .int .u16 x374004_7, .int .u32 x374005_7, .int .u32 x374006_7, .slice none 0 0, .int .u16 x374008_7, .slice none 0 0, .slice none 0 0, .int .i64 x374011_7] 45 (0, 0)) (pk BK373) hg (Kd.R_ne HO401.out BK373.out (by decide))); replace BK386 := Aside0.mk (blk_grown (g := gb386) (o := .cells #[.bool true, .bool t375, .bool t376, .int .i64 t377, .int .u16 t378, .int .u32 t379, .int .u32 t380, .slice Ao14 t381.length co14] 43 (0, 0)) (pk BK386) hg (Kd.R_ne HO401.out BK386.out (by decide))); replace BK387 := Aside0.mk (blk_grown (g := gb387) (o := .cells #[.bool true, .bool t375, .bool t376, .int .i64 t377, .int .u16 t378, .int .u32 t379, .int .u32 t380, .slice Ao14 t381.length co14, .int .u16 x388008_7, u388009, .slice none 0 0, .int .i64 t398] 45 (0, 0)) (pk BK387) hg (Kd.R_ne HO401.out BK387.out (by decide))); replace HB := Aside0.mk (hb); have HO405 := Aside0.mk (ho); clear HO401; clear ho hb hg hat; obtain ⟨Ao84, co84, eo84⟩ := Kd.R_slice HO405.out; subst eo84; obtain ⟨hcz85_0, hcz85_1, hcz85_2, hcz85_3, hcz85_4, hcz85_5, hcz85_6, hcz85_7, hcz85_8, hcz85_9, hcz85_10, hcz85_11, hfz85_0, hfz85_1, hfz85_2, hfz85_3, hfz85_4, hfz85_5, hfz85_6, hfz85_7, hfz85_8, hfz85_9, hfz85_10, hfz85_11⟩ := bc12 BK387.out) | ((with_reducible refine gate_store (t := 22) (p := 88) rfl ?_); refine store_event (t := 22) (p := 88) (v := ?vo_w86) (w1 := (w83.setCell ⟨gb387, 10, none⟩ (.slice Ao84 y403.length co84))) ?hg ?ho ?hn ?hr ?_; (case ho => rfl); (case hg => rfl); (case hn => rfl); (case hr => first | (go_simp; done) | (go_simp; rfl)); intro w86 hw; replace HO_387007 := rfE hw HO_387007 BK387; replace HO_388007 := rfE hw HO_388007 BK387; replace HO_388009 : Aside0 (Kd.R (Kd.int .u8) 5 w86 w.heap.size (fun k_ => some k_ ≠ (.slice Ao84 y403.length co84 : Value).ownBlock) u388009 x388009_7) := ⟨(by rw [hw]; exact (by (with_reducible repeat (first | apply Kd.R_alloc | apply Kd.R_drewN | apply Kd.R_drew)); exact Kd.R_mono (Kd.R_far (p := ⟨gb387, 10, none⟩) (Kd.R_types HO_388009.out BK387.out (by decide)) (fun _ hk => hk.2) (.slice Ao84 y403.length co84)) (fun _ hk => hk.1.2)))⟩; replace HO405 := rfE hw HO405 BK387; replace BK373 := bfE hw BK373 NB373_387; replace BK386 := bfE hw BK386 NB386_387; replace BK387 : Aside0 (w86.heap[gb387]? = some (.cells #[.bool true, .bool t375, .bool t376, .int .i64 t377, .int .u16 t378, .int .u32 t379, .int .u32 t380, .slice Ao14 t381.length co14, .int .u16 x388008_7, u388009, .slice Ao84 y403.length co84, .int .i64 t398] 45 (0, 0))) := ⟨by rw [hw]; exact blk_put BK387.out 10 _ rfl⟩; replace HB := bsE hw HB GE387; clear hw; obtain ⟨hcz87_0, hcz87_1, hcz87_2, hcz87_3, hcz87_4, hcz87_5, hcz87_6, hcz87_7, hcz87_8, hcz87_9, hcz87_10, hcz87_11, hfz87_0, hfz87_1, hfz87_2, hfz87_3, hfz87_4, hfz87_5, hfz87_6, hfz87_7, hfz87_8, hfz87_9, hfz87_10, hfz87_11⟩ := bc12 BK387.out; obtain ⟨hcz88_0, hcz88_1, hcz88_2, hcz88_3, hcz88_4, hcz88_5, hcz88_6, hcz88_7, hcz88_8, hcz88_9, hcz88_10, hcz88_11, hfz88_0, hfz88_1, hfz88_2, hfz88_3, hfz88_4, hfz88_5, hfz88_6, hfz88_7, hfz88_8, hfz88_9, hfz88_10, hfz88_11⟩ := bc12 BK373.out; obtain ⟨Ao89, co89, eo89⟩ := Kd.R_slice HO_388009.out; subst eo89) | ((with_reducible refine gate_store (t := 45) (p := 2) rfl ?_); refine store_event (t := 45) (p := 2) (v := ?vo_w90) (w1 := ((((((((((((w86.setCell ⟨gb373, 0, none⟩ (.bool true)).setCell ⟨gb373, 1, none⟩ (.bool t375)).setCell ⟨gb373, 2, none⟩ (.bool t376)).setCell ⟨gb373, 3, none⟩ (.int .i64 t377)).setCell ⟨gb373, 4, none⟩ (.int .u16 t378)).setCell ⟨gb373, 5, none⟩ (.int .u32 t379)).setCell ⟨gb373, 6, none⟩ (.int .u32 t380)).setCell ⟨gb373, 7, none⟩ (.slice Ao14 t381.length co14)).setCell ⟨gb373, 8, none⟩ (.int .u16 x388008_7)).setCell ⟨gb373, 9, none⟩ (.slice Ao89 x388009_7.length co89)).setCell ⟨gb373, 10, none⟩ (.slice Ao84 y403.length co84)).setCell ⟨gb373, 11, none⟩ (.int .i64 t398))) ?hg ?ho ?hn ?hr ?_; (case ho => rfl); (case hg => rfl); (case hn => rfl); (case hr => first | (go_simp; done) | (go_simp; rfl)); intro w90 hw; replace HO_387007 := rfE hw HO_387007 BK373; replace HO_388007 := rfE hw HO_388007 BK373; replace HO_388009 := rfE hw HO_388009 BK373; replace HO405 := rfE hw HO405 BK373; replace BK373 : Aside0 (w90.heap[gb373]? = some (.cells #[.bool true, .bool t375, .bool t376, .int .i64 t377, .int .u16 t378, .int .u32 t379, .int .u32 t380, .slice Ao14 t381.length co14, .int .u16 x388008_7, .slice Ao89 x388009_7.length co89, .slice Ao84 y403.length co84, .int .i64 t398] 45 (0, 0))) := ⟨by rw [hw]; apply puts12; exact BK373.out⟩; replace BK386 := bfE hw BK386 NB386_373; replace BK387 := bfE hw BK387 NB387_373; replace HB := bsE hw HB GE373; clear hw))
                    refine bodyPost_ret (results_ct rfl _ _ gb373 45 #[.bool true, .bool t375, .bool t376, .int .i64 t377, .int .u16 t378, .int .u32 t379, .int .u32 t380, .slice Ao14 t381.length co14, .int .u16 x388008_7, .slice Ao89 x388009_7.length co89, .slice Ao84 y403.length co84, .int .i64 t398] (0, 0) _ rfl (pk BK373) Try.underlying45 rfl (by kernel_rfl)) rfl ?_
                    exact ⟨_, _, _, by first | rfl | (simp [errW_none, errW_some] <;> rfl) | (simp [*, errW_none, errW_some] <;> rfl), by (with_reducible repeat (first | apply Kd.R_alloc | apply Kd.R_drewN | apply Kd.R_drew)); exact HO_388007.out, by (with_reducible repeat (first | apply Kd.R_alloc | apply Kd.R_drewN | apply Kd.R_drew)); exact HO_388009.out, by (with_reducible repeat (first | apply Kd.R_alloc | apply Kd.R_drewN | apply Kd.R_drew)); exact HO405.out, by repeat (first | (with_reducible first | exact HB.out | apply below_alloc | apply pw_below_drewN | apply below_drew1 | refine below_set ?_ GE373.out | refine below_set ?_ GE386.out | refine below_set ?_ GE387.out) | exact HB.out)⟩
                  rw [if_neg c70] at H
                  exact absurd H (by simp)
                rw [if_neg c69] at H
                exact absurd H (by simp)
              rw [if_neg c68] at H
              exact absurd H (by simp)
            rw [if_neg c54] at H
            exact absurd H (by simp)
          rw [if_neg c53] at H
          exact absurd H (by simp)
        replace c52 := Bool.eq_false_iff.mpr c52
        subst c52
        have H1 : ((some (([] : List Int) : List Int)).bind fun y406 => (if 0 ≤ x5_7 then (if x5_7 ≤ (wrap64 ((l0.length : Int))) then (if (wrap64 ((l0.length : Int))) ≤ (l0.length : Int) then (if y406.length + ((l0.take ((wrap64 ((l0.length : Int))) : Int).toNat).drop (x5_7 : Int).toNat).length < 140737488355328 then (some (false, t375, t376, t377, t378, t379, t380, t381, x388008_7, x388009_7, (y406 ++ ((l0.take ((wrap64 ((l0.length : Int))) : Int).toNat).drop (x5_7 : Int).toNat)), 0, 0)) else (none)) else (none)) else (none)) else (none))) = some (r1, r2, r3, r4, r5, r6, r7, r8, r9, r10, r11, r12, r13) := by rw [if_neg (show ¬ (false = true) by decide)] at H; simpa only [Int.sub_zero] using H
        clear H
        have H := H1
        clear H1
        obtain ⟨jz1, hjz1⟩ : ∃ j_ : Int, (wrap64 ((l0.length : Int))) = j_ := ⟨_, rfl⟩
        simp only [hjz1] at H
        have hjz1w : (IntKind.i64.wrap (l0.length : Int)) = jz1 := (i64_w _).trans hjz1
        obtain ⟨y406, hy406⟩ : ∃ y_ : List Int, y_ = (([] : List Int)) := ⟨_, rfl⟩
        replace H : (if 0 ≤ x5_7 then (if x5_7 ≤ jz1 then (if jz1 ≤ (l0.length : Int) then (if y406.length + ((l0.take (jz1 : Int).toNat).drop (x5_7 : Int).toNat).length < 140737488355328 then (some (false, t375, t376, t377, t378, t379, t380, t381, x388008_7, x388009_7, (y406 ++ ((l0.take (jz1 : Int).toNat).drop (x5_7 : Int).toNat)), 0, 0)) else (none)) else (none)) else (none)) else (none)) = some (r1, r2, r3, r4, r5, r6, r7, r8, r9, r10, r11, r12, r13) := by first | (rw [hy406]; with_reducible exact H) | (have H2_ := (Option.bind_some _ _).symm.trans H; rw [hy406]; with_reducible exact H2_) | (have H2_ := (Option.bind_some _ _).symm.trans H; with_reducible exact H2_) | with_reducible exact H | (rw [hy406]; exact H) | exact H
        have Ny406 := Aside0.mk hy406
        clear hy406
        by_cases c91 : 0 ≤ x5_7
        · rw [if_pos c91] at H
          have c91b0 := eq_true c91
          have c91b1 : decide (0 ≤ x5_7) = true := decide_eq_true c91
          clear c91
          by_cases c92 : x5_7 ≤ jz1
          · rw [if_pos c92] at H
            have c92b0 := eq_true c92
            have c92b1 : decide (x5_7 ≤ jz1) = true := decide_eq_true c92
            clear c92
            by_cases c93 : jz1 ≤ (l0.length : Int)
            · rw [if_pos c93] at H
              have c93b0 := eq_true c93
              have c93b1 : decide (jz1 ≤ (l0.length : Int)) = true := decide_eq_true c93
              clear c93
              by_cases c94 : y406.length + ((l0.take (jz1 : Int).toNat).drop (x5_7 : Int).toNat).length < 140737488355328
              · rw [if_pos c94] at H
                have LMc94 := Aside0.mk c94
                clear c94
                obtain ⟨y410, hy410⟩ : ∃ y_ : List Int, y_ = (y406 ++ ((l0.take (jz1 : Int).toNat).drop (x5_7 : Int).toNat)) := ⟨_, rfl⟩
                replace H : (some (false, t375, t376, t377, t378, t379, t380, t381, x388008_7, x388009_7, y410, 0, 0)) = some (r1, r2, r3, r4, r5, r6, r7, r8, r9, r10, r11, r12, r13) := by first | (rw [hy410]; with_reducible exact H) | (have H2_ := (Option.bind_some _ _).symm.trans H; rw [hy410]; with_reducible exact H2_) | (have H2_ := (Option.bind_some _ _).symm.trans H; with_reducible exact H2_) | with_reducible exact H | (rw [hy410]; exact H) | exact H
                have Ny410 := Aside0.mk hy410
                clear hy410
                simp only [Option.some.injEq, Prod.mk.injEq] at H
                obtain ⟨rfl, rfl, rfl, rfl, rfl, rfl, rfl, rfl, rfl, rfl, rfl, rfl, rfl⟩ := H
                have hnb95 := NB386_373.out
                have hnc95 := NB373_386.out
                have hnb96 := NB386_387.out
                have hnc96 := NB387_386.out
                obtain ⟨hcz97_0, hcz97_1, hcz97_2, hcz97_3, hcz97_4, hcz97_5, hcz97_6, hcz97_7, hfz97_0, hfz97_1, hfz97_2, hfz97_3, hfz97_4, hfz97_5, hfz97_6, hfz97_7⟩ := bc8 BK386.out
                go_wp2_with (first | ((with_reducible refine gate_dst (N := 78) rfl ?_); refine Kd.R_lit (Kd.int .u8) _ 5 ?hg (N := 78) ?hd (xs := ([] : List Int)) (inner := []) (ok := fun _ => True) (okp := fun _ => True) ?hr ?hp (fun _ hk => hk) trivial (Below.refl _ _) (Nat.le_refl _) (by simp) ?_; (case hd => rfl); (case hg => rfl); (case hr => first | (go_simp; done) | (go_simp; rfl)); (case hp => exact (Reps.none _ _)); intro v407 w98 ho99 hb hg_ hnew_; clear hg_ hnew_; (first | rw [← Ny406.out] at ho99 | (simp only [Int.reduceToNat] at ho99; rw [← Ny406.out] at ho99)); replace HO_387007 := rbE HO_387007 hb; replace HO_388007 := rbE HO_388007 hb; have n2_ := Aside0.mk (Kd.R_elder' (pR HO_388009) (Kd.R_base ho99) hb); have HO408 := Aside0.mk (Kd.R_lower (Kd.R_new' ho99 (Kd.R_lt (pR HO_388009))) (below_size (pB HB))); replace BK373 := bbE BK373 hb; replace BK386 := bbE BK386 hb; replace BK387 := bbE BK387 hb; replace HB := bstE HB hb; clear HO_388009; have HO_388009 := n2_; clear n2_; clear hb ho99; have hnb100 := NB387_373.out; have hnc100 := NB373_387.out; obtain ⟨hcz101_0, hcz101_1, hcz101_2, hcz101_3, hcz101_4, hcz101_5, hcz101_6, hcz101_7, hcz101_8, hcz101_9, hcz101_10, hcz101_11, hfz101_0, hfz101_1, hfz101_2, hfz101_3, hfz101_4, hfz101_5, hfz101_6, hfz101_7, hfz101_8, hfz101_9, hfz101_10, hfz101_11⟩ := bc12 BK387.out; obtain ⟨i0102, hi0102, _, hsz102, _⟩ := info_parts info5; obtain ⟨A102, hcut102, hA102, hC102⟩ := print_mid_of (P := Try.prog) (Value.int .u8) 0 22 5 .i64 .i64 Try.underlying22 hi0102 hsz102 A0 c0 l0 x5_7 jz1 (oT (by first | (with_reducible assumption) | assumption)) (by first | omega | exact of_decide_eq_true (by first | (with_reducible assumption) | assumption)) (oT (by first | (with_reducible assumption) | assumption)) HC0.out; have HR409 := Aside0.mk (Kd.C_of_reads (h1 := fun _ => rfl) (hA102 _ (Kd.reads_of_C HR0.out))); have HC409 := Aside0.mk hC102; clear hA102 hC102 hi0102 hsz102) | ((with_reducible refine gate_builtin (b := .append) (xs := #[.tmp 78, .tmp 86]) rfl ?_); at_builtin; refine Kd.R_append_rows (Kd.int .u8) (w0 := w) w.heap.size rfl (.tmp 78) (.tmp 86) 22 5 (.int .u8 0) 1 rfl Try.underlying22 info5 rfl (by decide) (by omega) v407 y406 ((l0.take (jz1 : Int).toNat).drop (x5_7 : Int).toNat) _ _ _ (fun k_ => some k_ ≠ (u388009 : Value).ownBlock) (fun _ => False) rfl rfl ?aO ?aR (fun _ _ h => h) (fun _ h => h.elim) ?aF ?aB ?aS ?aL ?_; (case aR => first | (rw [← show ((l0.take (jz1 : Int).toNat).drop (x5_7 : Int).toNat).length = (jz1.toNat - x5_7.toNat) from (by rw [List.length_drop, List.length_take]; have h_ : (jz1 : Int) ≤ (l0.length : Int) := of_decide_eq_true (by first | (with_reducible assumption) | assumption); omega)]; repeat (first | exact (Kd.C_below HR409.out HB.out) | (with_reducible refine Kd.C_alloc ?_ _) | (with_reducible refine Kd.C_drewN ?_ _) | (with_reducible refine Kd.C_drew ?_))) | (repeat (first | exact (Kd.C_below HR409.out HB.out) | (with_reducible refine Kd.C_alloc ?_ _) | (with_reducible refine Kd.C_drewN ?_ _) | (with_reducible refine Kd.C_drew ?_)))); (case aB => exact (pB HB)); (case aF => exact (fun k_ hk => Kd.fresh' (Kd.R_lt (pR HO_388009)) k_ hk)); (case aO => exact (by (with_reducible repeat (first | apply Kd.R_alloc | apply Kd.R_drewN | apply Kd.R_drew)); exact Kd.R_mono HO408.out (fun _ hk => hk.2))); (case aS => exact (below_size (pB HB))); (case aL => have := LMc94.out; have hlx_ := (show ((l0.take (jz1 : Int).toNat).drop (x5_7 : Int).toNat).length = (jz1.toNat - x5_7.toNat) from (by rw [List.length_drop, List.length_take]; have h_ : (jz1 : Int) ≤ (l0.length : Int) := of_decide_eq_true (by first | (with_reducible assumption) | assumption); omega)); omega); intro v411 w103 ho hb hg hat; rw [← Ny410.out] at ho; replace HO_387007 := Aside0.mk (Kd.R_over' (pR HO_387007) (Kd.R_typed (pR HO408)) (by decide) hg); replace HO_388007 := Aside0.mk (Kd.R_over' (pR HO_388007) (Kd.R_typed (pR HO408)) (by decide) hg); replace HO_388009 := Aside0.mk (Kd.R_after (ok := (fun _ => True)) (pR HO_388009) hg hat); replace BK373 := Aside0.mk (blk_grown (g := gb373) (o := .cells #[.bool x374000_7, .bool x374001_7, .bool x374002_7, .int .i64 x374003_7, .int .u16 x374004_7, .int .u32 x374005_7, .int .u32 x374006_7, .slice none 0 0, .int .u16 x374008_7, .slice none 0 0, .slice none 0 0, .int .i64 x374011_7] 45 (0, 0)) (pk BK373) hg (Kd.R_ne HO408.out BK373.out (by decide))); replace BK386 := Aside0.mk (blk_grown (g := gb386) (o := .cells #[.bool false, .bool t375, .bool t376, .int .i64 t377, .int .u16 t378, .int .u32 t379, .int .u32 t380, .slice Ao14 t381.length co14] 43 (0, 0)) (pk BK386) hg (Kd.R_ne HO408.out BK386.out (by decide))); replace BK387 := Aside0.mk (blk_grown (g := gb387) (o := .cells #[.bool false, .bool t375, .bool t376, .int .i64 t377, .int .u16 t378, .int .u32 t379, .int .u32 t380, .slice Ao14 t381.length co14, .int .u16 x388008_7, u388009, .slice none 0 0, .int .i64 0] 45 (0, 0)) (pk BK387) hg (Kd.R_ne HO408.out BK387.out (by decide))); replace HB := Aside0.mk (hb); have HO412 := Aside0.mk (ho); clear HO408; clear ho hb hg hat; obtain ⟨Ao104, co104, eo104⟩ := Kd.R_slice HO412.out; subst eo104; obtain ⟨hcz105_0, hcz105_1, hcz105_2, hcz105_3, hcz105_4, hcz105_5, hcz105_6, hcz105_7, hcz105_8, hcz105_9, hcz105_10, hcz105_11, hfz105_0, hfz105_1, hfz105_2, hfz105_3, hfz105_4, hfz105_5, hfz105_6, hfz105_7, hfz105_8, hfz105_9, hfz105_10, hfz105_11⟩ := bc12 BK387.out) | ((with_reducible refine gate_store (t := 22) (p := 88) rfl ?_); refine store_event (t := 22) (p := 88) (v := ?vo_w106) (w1 := (w103.setCell ⟨gb387, 10, none⟩ (.slice Ao104 y410.length co104))) ?hg ?ho ?hn ?hr ?_; (case ho => rfl); (case hg => rfl); (case hn => rfl); (case hr => first | (go_simp; done) | (go_simp; rfl)); intro w106 hw; replace HO_387007 := rfE hw HO_387007 BK387; replace HO_388007 := rfE hw HO_388007 BK387; replace HO_388009 : Aside0 (Kd.R (Kd.int .u8) 5 w106 w.heap.size (fun k_ => some k_ ≠ (.slice Ao104 y410.length co104 : Value).ownBlock) u388009 x388009_7) := ⟨(by rw [hw]; exact (by (with_reducible repeat (first | apply Kd.R_alloc | apply Kd.R_drewN | apply Kd.R_drew)); exact Kd.R_mono (Kd.R_far (p := ⟨gb387, 10, none⟩) (Kd.R_types HO_388009.out BK387.out (by decide)) (fun _ hk => hk.2) (.slice Ao104 y410.length co104)) (fun _ hk => hk.1.2)))⟩; replace HO412 := rfE hw HO412 BK387; replace BK373 := bfE hw BK373 NB373_387; replace BK386 := bfE hw BK386 NB386_387; replace BK387 : Aside0 (w106.heap[gb387]? = some (.cells #[.bool false, .bool t375, .bool t376, .int .i64 t377, .int .u16 t378, .int .u32 t379, .int .u32 t380, .slice Ao14 t381.length co14, .int .u16 x388008_7, u388009, .slice Ao104 y410.length co104, .int .i64 0] 45 (0, 0))) := ⟨by rw [hw]; exact blk_put BK387.out 10 _ rfl⟩; replace HB := bsE hw HB GE387; clear hw; obtain ⟨hcz107_0, hcz107_1, hcz107_2, hcz107_3, hcz107_4, hcz107_5, hcz107_6, hcz107_7, hcz107_8, hcz107_9, hcz107_10, hcz107_11, hfz107_0, hfz107_1, hfz107_2, hfz107_3, hfz107_4, hfz107_5, hfz107_6, hfz107_7, hfz107_8, hfz107_9, hfz107_10, hfz107_11⟩ := bc12 BK387.out; obtain ⟨hcz108_0, hcz108_1, hcz108_2, hcz108_3, hcz108_4, hcz108_5, hcz108_6, hcz108_7, hcz108_8, hcz108_9, hcz108_10, hcz108_11, hfz108_0, hfz108_1, hfz108_2, hfz108_3, hfz108_4, hfz108_5, hfz108_6, hfz108_7, hfz108_8, hfz108_9, hfz108_10, hfz108_11⟩ := bc12 BK373.out; obtain ⟨Ao109, co109, eo109⟩ := Kd.R_slice HO_388009.out; subst eo109) | ((with_reducible refine gate_store (t := 45) (p := 2) rfl ?_); refine store_event (t := 45) (p := 2) (v := ?vo_w110) (w1 := ((((((((((((w106.setCell ⟨gb373, 0, none⟩ (.bool false)).setCell ⟨gb373, 1, none⟩ (.bool t375)).setCell ⟨gb373, 2, none⟩ (.bool t376)).setCell ⟨gb373, 3, none⟩ (.int .i64 t377)).setCell ⟨gb373, 4, none⟩ (.int .u16 t378)).setCell ⟨gb373, 5, none⟩ (.int .u32 t379)).setCell ⟨gb373, 6, none⟩ (.int .u32 t380)).setCell ⟨gb373, 7, none⟩ (.slice Ao14 t381.length co14)).setCell ⟨gb373, 8, none⟩ (.int .u16 x388008_7)).setCell ⟨gb373, 9, none⟩ (.slice Ao109 x388009_7.length co109)).setCell ⟨gb373, 10, none⟩ (.slice Ao104 y410.length co104)).setCell ⟨gb373, 11, none⟩ (.int .i64 0))) ?hg ?ho ?hn ?hr ?_; (case ho => rfl); (case hg => rfl); (case hn => rfl); (case hr => first | (go_simp; done) | (go_simp; rfl)); intro w110 hw; replace HO_387007 := rfE hw HO_387007 BK373; replace HO_388007 := rfE hw HO_388007 BK373; replace HO_388009 := rfE hw HO_388009 BK373; replace HO412 := rfE hw HO412 BK373; replace BK373 : Aside0 (w110.heap[gb373]? = some (.cells #[.bool false, .bool t375, .bool t376, .int .i64 t377, .int .u16 t378, .int .u32 t379, .int .u32 t380, .slice Ao14 t381.length co14, .int .u16 x388008_7, .slice Ao109 x388009_7.length co109, .slice Ao104 y410.length co104, .int .i64 0] 45 (0, 0))) := ⟨by rw [hw]; apply puts12; exact BK373.out⟩; replace BK386 := bfE hw BK386 NB386_373; replace BK387 := bfE hw BK387 NB387_373; replace HB := bsE hw HB GE373; clear hw))
                refine bodyPost_ret (results_ct rfl _ _ gb373 45 #[.bool false, .bool t375, .bool t376, .int .i64 t377, .int .u16 t378, .int .u32 t379, .int .u32 t380, .slice Ao14 t381.length co14, .int .u16 x388008_7, .slice Ao109 x388009_7.length co109, .slice Ao104 y410.length co104, .int .i64 0] (0, 0) _ rfl (pk BK373) Try.underlying45 rfl (by kernel_rfl)) rfl ?_
                exact ⟨_, _, _, by first | rfl | (simp [errW_none, errW_some] <;> rfl) | (simp [*, errW_none, errW_some] <;> rfl), by (with_reducible repeat (first | apply Kd.R_alloc | apply Kd.R_drewN | apply Kd.R_drew)); exact HO_388007.out, by (with_reducible repeat (first | apply Kd.R_alloc | apply Kd.R_drewN | apply Kd.R_drew)); exact HO_388009.out, by (with_reducible repeat (first | apply Kd.R_alloc | apply Kd.R_drewN | apply Kd.R_drew)); exact HO412.out, by repeat (first | (with_reducible first | exact HB.out | apply below_alloc | apply pw_below_drewN | apply below_drew1 | refine below_set ?_ GE373.out | refine below_set ?_ GE386.out | refine below_set ?_ GE387.out) | exact HB.out)⟩
              rw [if_neg c94] at H
              exact absurd H (by simp)
            rw [if_neg c93] at H
            exact absurd H (by simp)
          rw [if_neg c92] at H
          exact absurd H (by simp)
        rw [if_neg c91] at H
        exact absurd H (by simp)
  rw [if_neg c7] at H
  have c7b0 : (t385 == 0) = false := beq_eq_false_iff_ne.mpr c7
  have c7b1 : (t385 != 0) = true := bne_iff_ne.mpr c7
  simp only [Option.some.injEq, Prod.mk.injEq] at H
  obtain ⟨rfl, rfl, rfl, rfl, rfl, rfl, rfl, rfl, rfl, rfl, rfl, rfl, rfl⟩ := H
  go_enter Try.func26, Try.ntmps26
  go_wp2_with (first | ((with_reducible refine gate_dst (N := 2) rfl ?_); refine box_event ?hg (N := 2) ?hd (cs := #[.bool false, .bool false, .bool false, .int .i64 0, .int .u16 0, .int .u32 0, .int .u32 0, .slice none 0 0, .int .u16 0, .slice none 0 0, .slice none 0 0, .int .i64 0]) (t := 45) ?hr ?_; (case hd => rfl); (case hg => rfl); (case hr => first | (go_simp; done) | (go_simp; rfl)); intro gb373 hg w111 hbox hb; have n0_ := bstE HB hb; have BK373 := Aside0.mk (hbox); have GW373 := geE hg HB; have GE373 := geE hg HB; clear HB; have HB := n0_; clear n0_; clear hb hbox hg) | ((with_reducible refine gate_callee (f := 42) rfl ?_); refine goesL_ (some 15) rfl rfl Try.func42 (by kernel_rfl) rfl #[.slice A0 l0.length c0] rfl (by (try simp only [List.map_toArray, List.map_cons, List.map_nil]); first | done | rfl | (simp only [List.length_drop, List.length_take]; rfl)) ?_; (with_reducible refine (crossbarref05_Read.calls k _ _ l0 t374 t375 t376 t377 t378 t379 t380 t381 t384 t385 _ ?side1 ?side2 A6.out).mono ?_); (case side1 => repeat (first | exact (Kd.C_below HR0.out HB.out) | (with_reducible refine Kd.C_alloc ?_ _) | (with_reducible refine Kd.C_drewN ?_ _) | (with_reducible refine Kd.C_drew ?_))); (case side2 => exact HC0.out); rintro e w112 ⟨v382, rfl, ho0, hb⟩; refine ⟨_, rfl, ?_⟩; have HO383 := Aside0.mk (Kd.R_lower ho0 (below_size (pB HB))); replace BK373 := bbE BK373 hb; replace HB := bstE HB hb; (try clear hb); (try clear hb2); (try clear hk); (try clear hi); (try clear ho0)) | ((with_reducible refine gate_dst (N := 4) rfl ?_); refine box_event ?hg (N := 4) ?hd (cs := #[.bool false, .bool false, .bool false, .int .i64 0, .int .u16 0, .int .u32 0, .int .u32 0, .slice none 0 0]) (t := 43) ?hr ?_; (case hd => rfl); (case hg => rfl); (case hr => first | (go_simp; done) | (go_simp; rfl)); intro gb386 hg w113 hbox hb; replace HO383 := rbE HO383 hb; have n1_ := bbE BK373 hb; have n2_ := bstE HB hb; have BK386 := Aside0.mk (hbox); have GW386 := geE hg HB; have GE386 := geE hg HB; have NB373_386 := nlE hg BK373; have NB386_373 := ngE hg BK373; clear BK373; clear HB; have BK373 := n1_; have HB := n2_; clear n1_ n2_; clear hb hbox hg; have hnb114 := NB386_373.out; have hnc114 := NB373_386.out; obtain ⟨hcz115_0, hcz115_1, hcz115_2, hcz115_3, hcz115_4, hcz115_5, hcz115_6, hcz115_7, hfz115_0, hfz115_1, hfz115_2, hfz115_3, hfz115_4, hfz115_5, hfz115_6, hfz115_7⟩ := bc8 BK386.out; obtain ⟨Ao116, co116, eo116⟩ := Kd.R_slice HO383.out; subst eo116) | ((with_reducible refine gate_store (t := 43) (p := 4) rfl ?_); refine store_event (t := 43) (p := 4) (v := ?vo_w117) (w1 := ((((((((w113.setCell ⟨gb386, 0, none⟩ (.bool t374)).setCell ⟨gb386, 1, none⟩ (.bool t375)).setCell ⟨gb386, 2, none⟩ (.bool t376)).setCell ⟨gb386, 3, none⟩ (.int .i64 t377)).setCell ⟨gb386, 4, none⟩ (.int .u16 t378)).setCell ⟨gb386, 5, none⟩ (.int .u32 t379)).setCell ⟨gb386, 6, none⟩ (.int .u32 t380)).setCell ⟨gb386, 7, none⟩ (.slice Ao116 t381.length co116))) ?hg ?ho ?hn ?hr ?_; (case ho => rfl); (case hg => rfl); (case hn => rfl); (case hr => first | (go_simp; done) | (go_simp; rfl)); intro w117 hw; replace HO383 := rfE hw HO383 BK386; replace BK373 := bfE hw BK373 NB373_386; replace BK386 : Aside0 (w117.heap[gb386]? = some (.cells #[.bool t374, .bool t375, .bool t376, .int .i64 t377, .int .u16 t378, .int .u32 t379, .int .u32 t380, .slice Ao116 t381.length co116] 43 (0, 0))) := ⟨by rw [hw]; apply puts8; exact BK386.out⟩; replace HB := bsE hw HB GE386; clear hw; obtain ⟨hcz118_0, hcz118_1, hcz118_2, hcz118_3, hcz118_4, hcz118_5, hcz118_6, hcz118_7, hcz118_8, hcz118_9, hcz118_10, hcz118_11, hfz118_0, hfz118_1, hfz118_2, hfz118_3, hfz118_4, hfz118_5, hfz118_6, hfz118_7, hfz118_8, hfz118_9, hfz118_10, hfz118_11⟩ := bc12 BK373.out) | ((with_reducible refine gate_store (t := 45) (p := 2) rfl ?_); refine store_event (t := 45) (p := 2) (v := ?vo_w119) (w1 := ((((((((((((w117.setCell ⟨gb373, 0, none⟩ (.bool false)).setCell ⟨gb373, 1, none⟩ (.bool false)).setCell ⟨gb373, 2, none⟩ (.bool false)).setCell ⟨gb373, 3, none⟩ (.int .i64 0)).setCell ⟨gb373, 4, none⟩ (.int .u16 0)).setCell ⟨gb373, 5, none⟩ (.int .u32 0)).setCell ⟨gb373, 6, none⟩ (.int .u32 0)).setCell ⟨gb373, 7, none⟩ (.slice none 0 0)).setCell ⟨gb373, 8, none⟩ (.int .u16 0)).setCell ⟨gb373, 9, none⟩ (.slice none 0 0)).setCell ⟨gb373, 10, none⟩ (.slice none 0 0)).setCell ⟨gb373, 11, none⟩ (.int .i64 0))) ?hg ?ho ?hn ?hr ?_; (case ho => rfl); (case hg => rfl); (case hn => rfl); (case hr => first | (go_simp; done) | (go_simp; rfl)); intro w119 hw; replace HO383 := rfE hw HO383 BK373; replace BK373 : Aside0 (w119.heap[gb373]? = some (.cells #[.bool false, .bool false, .bool false, .int .i64 0, .int .u16 0, .int .u32 0, .int .u32 0, .slice none 0 0, .int .u16 0, .slice none 0 0, .slice none 0 0, .int .i64 0] 45 (0, 0))) := ⟨by rw [hw]; apply puts12; exact BK373.out⟩; replace BK386 := bfE hw BK386 NB386_373; replace HB := bsE hw HB GE373; clear hw))
  refine bodyPost_ret (results_ct rfl _ _ gb373 45 #[.bool false, .bool false, .bool false, .int .i64 0, .int .u16 0, .int .u32 0, .int .u32 0, .slice none 0 0, .int .u16 0, .slice none 0 0, .slice none 0 0, .int .i64 0] (0, 0) _ rfl (pk BK373) Try.underlying45 rfl (by kernel_rfl)) rfl ?_
  exact ⟨_, _, _, by first | rfl | (simp [errW_none, errW_some] <;> rfl) | (simp [*, errW_none, errW_some] <;> rfl), by first | exact Kd.R_nil _ _ _ _ _ | exact Kd.N_nil _ _ _ _ _ | exact Kd.V_nil _ _ _ _ _ | exact Kd.Q_nil _ _ _ _ _ | exact Kd.S_nil _ _ _ _ _, by first | exact Kd.R_nil _ _ _ _ _ | exact Kd.N_nil _ _ _ _ _ | exact Kd.V_nil _ _ _ _ _ | exact Kd.Q_nil _ _ _ _ _ | exact Kd.S_nil _ _ _ _ _, by first | exact Kd.R_nil _ _ _ _ _ | exact Kd.N_nil _ _ _ _ _ | exact Kd.V_nil _ _ _ _ _ | exact Kd.Q_nil _ _ _ _ _ | exact Kd.S_nil _ _ _ _ _, by repeat (first | (with_reducible first | exact HB.out | apply below_alloc | apply pw_below_drewN | apply below_drew1 | refine below_set ?_ GE373.out | refine below_set ?_ GE386.out) | exact HB.out)⟩
end Go.Proofs.Ytcbdgknfkoodoaa.F
namespace Go.Proofs.Ytcbdgknfkoodoaa.F
open Go.RowKit Go.Proofs.YtcbdgknfkoodoaaW.PrintWords Go.Proofs.YtcbdgknfkoodoaaW.PrintLast Go.Proofs.YtcbdgknfkoodoaaW.PrintMore
attribute [local go_sem] max2_int min2_int max_two min_two max_three min_three max_four min_four   
set_option linter.unusedVariables false
set_option linter.unusedSimpArgs false
mutual
def crossbarref07_Of.l0 : Nat → List Int → List (S32) → Int → Int → Bool → Bool → Bool → Int → Int → Int → Int → List Int → Int → List Int → List Int → Int → Option ((List (S32)) × Int)
  | 0, _, _, _, _, _, _, _, _, _, _, _, _, _, _, _, _ => none
  | k + 1, x0, x6, x7, x8, x433000, x433001, x433002, x433003, x433004, x433005, x433006, x433007, x433008, x433009, x433010, x433011 => if x8 < (x433007.length : Int) then (if x6.length < 5864062014805 then (crossbarref07_Of.l0 k x0 (x6 ++ [(⟨6, x7, 4⟩ : S32)]) (wrap64 (x7 + 4)) (wrap64 (x8 + 1)) x433000 x433001 x433002 x433003 x433004 x433005 x433006 x433007 x433008 x433009 x433010 x433011) else (none)) else (if x433001 = true then ((some (([(⟨7, x7, 2⟩ : S32), (⟨8, wrap64 (x7 + 2), 2⟩ : S32)] : List (S32)) : List (S32))).bind fun y439 => (if x6.length + y439.length < 5864062014805 then ((some (x6 ++ y439 : List (S32))).bind fun y442 => (if (x433009.length : Int) > 0 then (if y442.length < 5864062014805 then (crossbarref07_Of.j1 k x0 (y442 ++ [(⟨9, wrap64 (x7 + 4), (x433009.length : Int)⟩ : S32)]) (wrap64 ((wrap64 (x7 + 4)) + (x433009.length : Int))) x433000 x433001 x433002 x433003 x433004 x433005 x433006 x433007 x433008 x433009 x433010 x433011) else (none)) else (crossbarref07_Of.j1 k x0 y442 (wrap64 (x7 + 4)) x433000 x433001 x433002 x433003 x433004 x433005 x433006 x433007 x433008 x433009 x433010 x433011))) else (none))) else (crossbarref07_Of.j1 k x0 x6 x7 x433000 x433001 x433002 x433003 x433004 x433005 x433006 x433007 x433008 x433009 x433010 x433011))
def crossbarref07_Of.j1 : Nat → List Int → List (S32) → Int → Bool → Bool → Bool → Int → Int → Int → Int → List Int → Int → List Int → List Int → Int → Option ((List (S32)) × Int)
  | 0, _, _, _, _, _, _, _, _, _, _, _, _, _, _, _ => none
  | k + 1, x0, x6, x7, x433000, x433001, x433002, x433003, x433004, x433005, x433006, x433007, x433008, x433009, x433010, x433011 => if (x433010.length : Int) > 0 then (if x6.length < 5864062014805 then (crossbarref07_Of.j2 k x0 (x6 ++ [(⟨10, x7, (x433010.length : Int)⟩ : S32)]) (wrap64 (x7 + (x433010.length : Int))) x433000 x433001 x433002 x433003 x433004 x433005 x433006 x433007 x433008 x433009 x433010 x433011) else (none)) else (crossbarref07_Of.j2 k x0 x6 x7 x433000 x433001 x433002 x433003 x433004 x433005 x433006 x433007 x433008 x433009 x433010 x433011)
def crossbarref07_Of.j2 : Nat → List Int → List (S32) → Int → Bool → Bool → Bool → Int → Int → Int → Int → List Int → Int → List Int → List Int → Int → Option ((List (S32)) × Int)
  | 0, _, _, _, _, _, _, _, _, _, _, _, _, _, _, _ => none
  | k + 1, x0, x6, x7, x433000, x433001, x433002, x433003, x433004, x433005, x433006, x433007, x433008, x433009, x433010, x433011 => if x433011 > 1 then (if x6.length < 5864062014805 then ((some (x6 ++ [(⟨11, x7, wrap64 (x433011 - 1)⟩ : S32)] : List (S32))).bind fun y451 => (if x433011 > 0 then (if y451.length < 5864062014805 then (some ((y451 ++ [(⟨12, wrap64 ((x0.length : Int) - 1), 1⟩ : S32)]), 0)) else (none)) else (some (y451, 0)))) else (none)) else (if x433011 > 0 then (if x6.length < 5864062014805 then (some ((x6 ++ [(⟨12, wrap64 ((x0.length : Int) - 1), 1⟩ : S32)]), 0)) else (none)) else (some (x6, 0)))
end
def crossbarref07_Of.f (k : Nat) (l0 : List Int) : Option ((List (S32)) × Int) := (crossbarref06_Read.f k l0).bind fun bt413 => (if bt413.2.2.2.2.2.2.2.2.2.2.2.2 = 0 then (crossbarref07_Of.l0 k l0 (([(⟨1, 0, 1⟩ : S32), (⟨2, 1, 1⟩ : S32), (⟨3, 2, 2⟩ : S32), (⟨4, 4, 4⟩ : S32), (⟨5, 8, 4⟩ : S32)] : List (S32))) 12 0 bt413.1 bt413.2.1 bt413.2.2.1 bt413.2.2.2.1 bt413.2.2.2.2.1 bt413.2.2.2.2.2.1 bt413.2.2.2.2.2.2.1 bt413.2.2.2.2.2.2.2.1 bt413.2.2.2.2.2.2.2.2.1 bt413.2.2.2.2.2.2.2.2.2.1 bt413.2.2.2.2.2.2.2.2.2.2.1 bt413.2.2.2.2.2.2.2.2.2.2.2.1) else (some (([] : List (S32)), bt413.2.2.2.2.2.2.2.2.2.2.2.2)))
theorem crossbarref07_Of.mono_l : ∀ k, (∀ y0 y1 y2 y3 y4 y5 y6 y7 y8 y9 y10 y11 y12 y13 y14 y15, LeO (crossbarref07_Of.l0 k y0 y1 y2 y3 y4 y5 y6 y7 y8 y9 y10 y11 y12 y13 y14 y15) (crossbarref07_Of.l0 (k + 1) y0 y1 y2 y3 y4 y5 y6 y7 y8 y9 y10 y11 y12 y13 y14 y15)) ∧ (∀ y0 y1 y2 y3 y4 y5 y6 y7 y8 y9 y10 y11 y12 y13 y14, LeO (crossbarref07_Of.j1 k y0 y1 y2 y3 y4 y5 y6 y7 y8 y9 y10 y11 y12 y13 y14) (crossbarref07_Of.j1 (k + 1) y0 y1 y2 y3 y4 y5 y6 y7 y8 y9 y10 y11 y12 y13 y14)) ∧ (∀ y0 y1 y2 y3 y4 y5 y6 y7 y8 y9 y10 y11 y12 y13 y14, LeO (crossbarref07_Of.j2 k y0 y1 y2 y3 y4 y5 y6 y7 y8 y9 y10 y11 y12 y13 y14) (crossbarref07_Of.j2 (k + 1) y0 y1 y2 y3 y4 y5 y6 y7 y8 y9 y10 y11 y12 y13 y14))
  | 0 => ⟨fun _ _ _ _ _ _ _ _ _ _ _ _ _ _ _ _ r h => by simp [crossbarref07_Of.l0] at h, fun _ _ _ _ _ _ _ _ _ _ _ _ _ _ _ r h => by simp [crossbarref07_Of.j1] at h, fun _ _ _ _ _ _ _ _ _ _ _ _ _ _ _ r h => by simp [crossbarref07_Of.j2] at h⟩
  | k + 1 => by
    obtain ⟨ih0, ih1, ih2⟩ := crossbarref07_Of.mono_l k
    refine ⟨?_, ?_, ?_⟩
    · intro y0 y1 y2 y3 y4 y5 y6 y7 y8 y9 y10 y11 y12 y13 y14 y15
      unfold crossbarref07_Of.l0
      repeat' first
      | (with_reducible exact ih0 _ _ _ _ _ _ _ _ _ _ _ _ _ _ _ _)
      | (with_reducible exact ih1 _ _ _ _ _ _ _ _ _ _ _ _ _ _ _)
      | (with_reducible exact ih2 _ _ _ _ _ _ _ _ _ _ _ _ _ _ _)
      | (with_reducible exact crossbarref06_Read.mono _ _)
      | (with_reducible exact LeO.refl _)
      | (with_reducible exact LeO.none _)
      | (with_reducible refine LeO.ite ?_ ?_)
      | (with_reducible refine LeO.bind ?_ (fun _ => ?_))
      | exact ih0 _ _ _ _ _ _ _ _ _ _ _ _ _ _ _ _
      | exact ih1 _ _ _ _ _ _ _ _ _ _ _ _ _ _ _
      | exact ih2 _ _ _ _ _ _ _ _ _ _ _ _ _ _ _
      | exact crossbarref06_Read.mono _ _
      | exact LeO.none _
      | refine LeO.ite ?_ ?_
      | refine LeO.bind ?_ (fun _ => ?_)
    · intro y0 y1 y2 y3 y4 y5 y6 y7 y8 y9 y10 y11 y12 y13 y14
      unfold crossbarref07_Of.j1
      repeat' first
      | (with_reducible exact ih0 _ _ _ _ _ _ _ _ _ _ _ _ _ _ _ _)
      | (with_reducible exact ih1 _ _ _ _ _ _ _ _ _ _ _ _ _ _ _)
      | (with_reducible exact ih2 _ _ _ _ _ _ _ _ _ _ _ _ _ _ _)
      | (with_reducible exact crossbarref06_Read.mono _ _)
      | (with_reducible exact LeO.refl _)
      | (with_reducible exact LeO.none _)
      | (with_reducible refine LeO.ite ?_ ?_)
      | (with_reducible refine LeO.bind ?_ (fun _ => ?_))
      | exact ih0 _ _ _ _ _ _ _ _ _ _ _ _ _ _ _ _
      | exact ih1 _ _ _ _ _ _ _ _ _ _ _ _ _ _ _
      | exact ih2 _ _ _ _ _ _ _ _ _ _ _ _ _ _ _
      | exact crossbarref06_Read.mono _ _
      | exact LeO.none _
      | refine LeO.ite ?_ ?_
      | refine LeO.bind ?_ (fun _ => ?_)
    intro y0 y1 y2 y3 y4 y5 y6 y7 y8 y9 y10 y11 y12 y13 y14
    unfold crossbarref07_Of.j2
    repeat' first
    | (with_reducible exact ih0 _ _ _ _ _ _ _ _ _ _ _ _ _ _ _ _)
    | (with_reducible exact ih1 _ _ _ _ _ _ _ _ _ _ _ _ _ _ _)
    | (with_reducible exact ih2 _ _ _ _ _ _ _ _ _ _ _ _ _ _ _)
    | (with_reducible exact crossbarref06_Read.mono _ _)
    | (with_reducible exact LeO.refl _)
    | (with_reducible exact LeO.none _)
    | (with_reducible refine LeO.ite ?_ ?_)
    | (with_reducible refine LeO.bind ?_ (fun _ => ?_))
    | exact ih0 _ _ _ _ _ _ _ _ _ _ _ _ _ _ _ _
    | exact ih1 _ _ _ _ _ _ _ _ _ _ _ _ _ _ _
    | exact ih2 _ _ _ _ _ _ _ _ _ _ _ _ _ _ _
    | exact crossbarref06_Read.mono _ _
    | exact LeO.none _
    | refine LeO.ite ?_ ?_
    | refine LeO.bind ?_ (fun _ => ?_)
theorem crossbarref07_Of.mono : ∀ a0 k, LeO (crossbarref07_Of.f k a0) (crossbarref07_Of.f (k + 1) a0) := by
  intro a0 k
  obtain ⟨ih0, ih1, ih2⟩ := crossbarref07_Of.mono_l k
  unfold crossbarref07_Of.f
  repeat' first
      | (with_reducible exact ih0 _ _ _ _ _ _ _ _ _ _ _ _ _ _ _ _)
      | (with_reducible exact ih1 _ _ _ _ _ _ _ _ _ _ _ _ _ _ _)
      | (with_reducible exact ih2 _ _ _ _ _ _ _ _ _ _ _ _ _ _ _)
      | (with_reducible exact crossbarref06_Read.mono _ _)
      | (with_reducible exact LeO.refl _)
      | (with_reducible exact LeO.none _)
      | (with_reducible refine LeO.ite ?_ ?_)
      | (with_reducible refine LeO.bind ?_ (fun _ => ?_))
      | exact ih0 _ _ _ _ _ _ _ _ _ _ _ _ _ _ _ _
      | exact ih1 _ _ _ _ _ _ _ _ _ _ _ _ _ _ _
      | exact ih2 _ _ _ _ _ _ _ _ _ _ _ _ _ _ _
      | exact crossbarref06_Read.mono _ _
      | exact LeO.none _
      | refine LeO.ite ?_ ?_
      | refine LeO.bind ?_ (fun _ => ?_)
set_option maxHeartbeats 8000000 in
set_option maxRecDepth 100000 in
theorem crossbarref07_Of.calls (k : Nat) (A0 : Option Addr) (c0 : Nat) (l0 : List Int) (r1 : List (S32)) (r2 : Int) (w : World) (hr0 : Kd.C (Kd.int .u8) w A0 l0.length l0) (hc0 : l0.length ≤ c0) (h : crossbarref07_Of.f k l0 = some (r1, r2)) :
    Calls Try.prog 11 #[.slice A0 l0.length c0] w fun e w' => ∃ v0_ : Value, e = .returned (.tuple #[v0_, .int .i64 r2]) ∧ Kd.R k32 32 w' w.heap.size (fun _ => True) v0_ r1 ∧ Below w.heap.size w w' := by
  have hu45 := Try.underlying45
  have hu32 := Try.underlying32
  have HR0 := Aside0.mk hr0
  have HC0 := Aside0.mk hc0
  clear hr0 hc0
  have HB := Aside0.mk (Below.refl w.heap.size w)
  have H : ((crossbarref06_Read.f k l0).bind fun bt413 => (if bt413.2.2.2.2.2.2.2.2.2.2.2.2 = 0 then (crossbarref07_Of.l0 k l0 (([(⟨1, 0, 1⟩ : S32), (⟨2, 1, 1⟩ : S32), (⟨3, 2, 2⟩ : S32), (⟨4, 4, 4⟩ : S32), (⟨5, 8, 4⟩ : S32)] : List (S32))) 12 0 bt413.1 bt413.2.1 bt413.2.2.1 bt413.2.2.2.1 bt413.2.2.2.2.1 bt413.2.2.2.2.2.1 bt413.2.2.2.2.2.2.1 bt413.2.2.2.2.2.2.2.1 bt413.2.2.2.2.2.2.2.2.1 bt413.2.2.2.2.2.2.2.2.2.1 bt413.2.2.2.2.2.2.2.2.2.2.1 bt413.2.2.2.2.2.2.2.2.2.2.2.1) else (some (([] : List (S32)), bt413.2.2.2.2.2.2.2.2.2.2.2.2)))) = some (r1, r2) := h
  clear h
  replace H := Option.bind_eq_some_iff.mp H
  obtain ⟨⟨t413, t414, t415, t416, t417, t418, t419, t420, t423, t424, t427, t430, t431⟩, A20, H⟩ := H
  replace H : (if t431 = 0 then (crossbarref07_Of.l0 k l0 (([(⟨1, 0, 1⟩ : S32), (⟨2, 1, 1⟩ : S32), (⟨3, 2, 2⟩ : S32), (⟨4, 4, 4⟩ : S32), (⟨5, 8, 4⟩ : S32)] : List (S32))) 12 0 t413 t414 t415 t416 t417 t418 t419 t420 t423 t424 t427 t430) else (some (([] : List (S32)), t431))) = some (r1, r2) := H
  have A2 := Aside0.mk A20
  clear A20
  by_cases c3 : t431 = 0
  · rw [if_pos c3] at H
    have c3b0 : (t431 == 0) = true := beq_iff_eq.mpr c3
    have c3b1 : (t431 != 0) = false := bne_eq_false_iff_eq.mpr c3
    clear c3
    obtain ⟨y433, hy433⟩ : ∃ y_ : List (S32), y_ = (([(⟨1, 0, 1⟩ : S32), (⟨2, 1, 1⟩ : S32), (⟨3, 2, 2⟩ : S32), (⟨4, 4, 4⟩ : S32), (⟨5, 8, 4⟩ : S32)] : List (S32))) := ⟨_, rfl⟩
    replace H : (crossbarref07_Of.l0 k l0 y433 12 0 t413 t414 t415 t416 t417 t418 t419 t420 t423 t424 t427 t430) = some (r1, r2) := by first | (rw [hy433]; with_reducible exact H) | (have H2_ := (Option.bind_some _ _).symm.trans H; rw [hy433]; with_reducible exact H2_) | (have H2_ := (Option.bind_some _ _).symm.trans H; with_reducible exact H2_) | with_reducible exact H | (rw [hy433]; exact H) | exact H
    have Ny433 := Aside0.mk hy433
    clear hy433
    have H' := Aside0.mk H
    clear H
    go_enter Try.func11, Try.ntmps11
    go_wp2_with (first | ((with_reducible refine gate_callee (f := 26) rfl ?_); refine goesL_ (some 11) rfl rfl Try.func26 (by kernel_rfl) rfl #[.slice A0 l0.length c0] rfl (by (try simp only [List.map_toArray, List.map_cons, List.map_nil]); first | done | rfl | (simp only [List.length_drop, List.length_take]; rfl)) ?_; (with_reducible refine (crossbarref06_Read.calls k _ _ l0 t413 t414 t415 t416 t417 t418 t419 t420 t423 t424 t427 t430 t431 _ ?side1 ?side2 A2.out).mono ?_); (case side1 => repeat (first | exact HR0.out | (with_reducible refine Kd.C_alloc ?_ _) | (with_reducible refine Kd.C_drewN ?_ _) | (with_reducible refine Kd.C_drew ?_))); (case side2 => exact HC0.out); rintro e w4 ⟨v421, v425, v428, rfl, ho0, ho1, ho2, hb⟩; refine ⟨_, rfl, ?_⟩; have HO422 := Aside0.mk (Kd.R_lower ho0 (below_size (pB HB))); have HO426 := Aside0.mk (Kd.R_lower ho1 (below_size (pB HB))); have HO429 := Aside0.mk (Kd.R_lower ho2 (below_size (pB HB))); replace HB := bstE HB hb; (try clear hb); (try clear hb2); (try clear hk); (try clear hi); (try clear ho0); (try clear ho1); (try clear ho2)) | ((with_reducible refine gate_dst (N := 4) rfl ?_); refine box_event ?hg (N := 4) ?hd (cs := #[.bool false, .bool false, .bool false, .int .i64 0, .int .u16 0, .int .u32 0, .int .u32 0, .slice none 0 0, .int .u16 0, .slice none 0 0, .slice none 0 0, .int .i64 0]) (t := 45) ?hr ?_; (case hd => rfl); (case hg => rfl); (case hr => first | (go_simp; done) | (go_simp; rfl)); intro gb432 hg w5 hbox hb; replace HO422 := rbE HO422 hb; replace HO426 := rbE HO426 hb; replace HO429 := rbE HO429 hb; have n3_ := bstE HB hb; have BK432 := Aside0.mk (hbox); have GW432 := geE hg HB; have GE432 := geE hg HB; clear HB; have HB := n3_; clear n3_; clear hb hbox hg; obtain ⟨hcz6_0, hcz6_1, hcz6_2, hcz6_3, hcz6_4, hcz6_5, hcz6_6, hcz6_7, hcz6_8, hcz6_9, hcz6_10, hcz6_11, hfz6_0, hfz6_1, hfz6_2, hfz6_3, hfz6_4, hfz6_5, hfz6_6, hfz6_7, hfz6_8, hfz6_9, hfz6_10, hfz6_11⟩ := bc12 BK432.out; obtain ⟨Ao7, co7, eo7⟩ := Kd.R_slice HO422.out; subst eo7; obtain ⟨Ao8, co8, eo8⟩ := Kd.R_slice HO426.out; subst eo8; obtain ⟨Ao9, co9, eo9⟩ := Kd.R_slice HO429.out; subst eo9) | ((with_reducible refine gate_store (t := 45) (p := 4) rfl ?_); refine store_event (t := 45) (p := 4) (v := ?vo_w10) (w1 := ((((((((((((w5.setCell ⟨gb432, 0, none⟩ (.bool t413)).setCell ⟨gb432, 1, none⟩ (.bool t414)).setCell ⟨gb432, 2, none⟩ (.bool t415)).setCell ⟨gb432, 3, none⟩ (.int .i64 t416)).setCell ⟨gb432, 4, none⟩ (.int .u16 t417)).setCell ⟨gb432, 5, none⟩ (.int .u32 t418)).setCell ⟨gb432, 6, none⟩ (.int .u32 t419)).setCell ⟨gb432, 7, none⟩ (.slice Ao7 t420.length co7)).setCell ⟨gb432, 8, none⟩ (.int .u16 t423)).setCell ⟨gb432, 9, none⟩ (.slice Ao8 t424.length co8)).setCell ⟨gb432, 10, none⟩ (.slice Ao9 t427.length co9)).setCell ⟨gb432, 11, none⟩ (.int .i64 t430))) ?hg ?ho ?hn ?hr ?_; (case ho => rfl); (case hg => rfl); (case hn => rfl); (case hr => first | (go_simp; done) | (go_simp; rfl)); intro w10 hw; replace HO422 := rfE hw HO422 BK432; replace HO426 := rfE hw HO426 BK432; replace HO429 := rfE hw HO429 BK432; replace BK432 : Aside0 (w10.heap[gb432]? = some (.cells #[.bool t413, .bool t414, .bool t415, .int .i64 t416, .int .u16 t417, .int .u32 t418, .int .u32 t419, .slice Ao7 t420.length co7, .int .u16 t423, .slice Ao8 t424.length co8, .slice Ao9 t427.length co9, .int .i64 t430] 45 (0, 0))) := ⟨by rw [hw]; apply puts12; exact BK432.out⟩; replace HB := bsE hw HB GE432; clear hw) | ((with_reducible refine gate_dst (N := 22) rfl ?_); refine Kd.R_lit k32 _ 32 ?hg (N := 22) ?hd (xs := ([(⟨1, 0, 1⟩ : S32), (⟨2, 1, 1⟩ : S32), (⟨3, 2, 2⟩ : S32), (⟨4, 4, 4⟩ : S32), (⟨5, 8, 4⟩ : S32)] : List (S32))) (inner := [.int .i64 1, .int .i64 0, .int .i64 1, .int .i64 2, .int .i64 1, .int .i64 1, .int .i64 3, .int .i64 2, .int .i64 2, .int .i64 4, .int .i64 4, .int .i64 4, .int .i64 5, .int .i64 8, .int .i64 4]) (ok := fun _ => True) (okp := fun _ => True) ?hr ?hp (fun _ hk => hk) trivial (Below.refl _ _) (Nat.le_refl _) (by simp) ?_; (case hd => rfl); (case hg => rfl); (case hr => first | (go_simp; done) | (go_simp; rfl)); (case hp => exact (Reps.c3 (show Kd.M k32 _ _ _ (⟨1, 0, 1⟩ : S32) [.int .i64 1, .int .i64 0, .int .i64 1] from (k32_mkM _ _ _ (⟨1, 0, 1⟩ : S32) )) (Reps.c3 (show Kd.M k32 _ _ _ (⟨2, 1, 1⟩ : S32) [.int .i64 2, .int .i64 1, .int .i64 1] from (k32_mkM _ _ _ (⟨2, 1, 1⟩ : S32) )) (Reps.c3 (show Kd.M k32 _ _ _ (⟨3, 2, 2⟩ : S32) [.int .i64 3, .int .i64 2, .int .i64 2] from (k32_mkM _ _ _ (⟨3, 2, 2⟩ : S32) )) (Reps.c3 (show Kd.M k32 _ _ _ (⟨4, 4, 4⟩ : S32) [.int .i64 4, .int .i64 4, .int .i64 4] from (k32_mkM _ _ _ (⟨4, 4, 4⟩ : S32) )) (Reps.c3 (show Kd.M k32 _ _ _ (⟨5, 8, 4⟩ : S32) [.int .i64 5, .int .i64 8, .int .i64 4] from (k32_mkM _ _ _ (⟨5, 8, 4⟩ : S32) )) (Reps.none _ _))))))); intro v434 w11 ho12 hb hg_ hnew_; clear hg_ hnew_; (first | rw [← Ny433.out] at ho12 | (simp only [Int.reduceToNat] at ho12; rw [← Ny433.out] at ho12)); replace HO422 := rbE HO422 hb; replace HO426 := rbE HO426 hb; replace HO429 := rbE HO429 hb; have HO435 := Aside0.mk (Kd.R_lower ho12 (below_size (pB HB))); replace BK432 := bbE BK432 hb; replace HB := bstE HB hb; clear hb ho12))
    go_loopg [6, 7, 8] k (fun kq v6 v7 v8 w' => ∃ (x6_1 : List (S32)) (x7_1 : Int) (x8_1 : Int), v7 = .int .i64 x7_1 ∧ v8 = .int .i64 x8_1 ∧ Aside0 (crossbarref07_Of.l0 kq l0 x6_1 x7_1 x8_1 t413 t414 t415 t416 t417 t418 t419 t420 t423 t424 t427 t430 = some (r1, r2)) ∧ Aside0 (kq ≤ k) ∧ Aside0 (Kd.R k32 32 w' w.heap.size (fun _ => True) v6 x6_1) ∧ Aside0 (Kd.R (Kd.int .u32) 40 w' w.heap.size (fun _ => True) (.slice Ao7 t420.length co7) t420) ∧ Aside0 (Kd.R (Kd.int .u8) 5 w' w.heap.size (fun k_ => some k_ ≠ ((.slice Ao9 t427.length co9) : Value).ownBlock) (.slice Ao8 t424.length co8) t424) ∧ Aside0 (Kd.R (Kd.int .u8) 5 w' w.heap.size (fun k_ => some k_ ≠ ((.slice Ao8 t424.length co8) : Value).ownBlock) (.slice Ao9 t427.length co9) t427) ∧ Aside0 (w'.heap[gb432]? = some (.cells #[.bool t413, .bool t414, .bool t415, .int .i64 t416, .int .u16 t417, .int .u32 t418, .int .u32 t419, (.slice Ao7 t420.length co7), .int .u16 t423, (.slice Ao8 t424.length co8), (.slice Ao9 t427.length co9), .int .i64 t430] 45 (0, 0))) ∧ Aside0 (Below w.heap.size w w'))
    case atStart => exact ⟨(y433), (12), (0), (by first | rfl | (simp; done) | (simp [*]; done)), (by first | rfl | (simp; done) | (simp [*]; done)), H', ⟨Nat.le_refl _⟩, ⟨by (with_reducible repeat (first | apply Kd.R_alloc | apply Kd.R_drewN | apply Kd.R_drew)); exact HO435.out⟩, ⟨by (with_reducible repeat (first | apply Kd.R_alloc | apply Kd.R_drewN | apply Kd.R_drew)); exact HO422.out⟩, ⟨by (with_reducible repeat (first | apply Kd.R_alloc | apply Kd.R_drewN | apply Kd.R_drew)); exact HO426.out⟩, ⟨by (with_reducible repeat (first | apply Kd.R_alloc | apply Kd.R_drewN | apply Kd.R_drew)); exact HO429.out⟩, ⟨by (with_reducible repeat (first | refine blk_drewN ?_ _ | refine blk_drew ?_ | refine blk_alloc ?_ _)); exact BK432.out⟩, ⟨by repeat (first | (with_reducible first | exact HB.out | apply below_alloc | apply pw_below_drewN | apply below_drew1 | refine below_set ?_ GE432.out) | exact HB.out)⟩⟩
    case round =>
      clear H'
      try clear c1
      try clear c2
      try clear p2
      try clear c3
      try clear c3b0
      try clear c3b1
      try clear c11
      try clear hcz6_0
      try clear hcz6_1
      try clear hcz6_10
      try clear hcz6_11
      try clear hcz6_2
      try clear hcz6_3
      try clear hcz6_4
      try clear hcz6_5
      try clear hcz6_6
      try clear hcz6_7
      try clear hcz6_8
      try clear hcz6_9
      try clear hfz6_0
      try clear hfz6_1
      try clear hfz6_10
      try clear hfz6_11
      try clear hfz6_2
      try clear hfz6_3
      try clear hfz6_4
      try clear hfz6_5
      try clear hfz6_6
      try clear hfz6_7
      try clear hfz6_8
      try clear hfz6_9
      obtain ⟨x6_1, x7_1, x8_1, rfl, rfl, HA, HK1, HO_6, HO_433007, HO_433009, HO_433010, BK432, HB⟩ := hrel
      cases gk with
      | zero => exact absurd HA.out (by simp [crossbarref07_Of.l0])
      | succ k1 =>
        have H := HA.out
        clear HA
        simp only [crossbarref07_Of.l0] at H
        by_cases c13 : x8_1 < (t420.length : Int)
        · rw [if_pos c13] at H
          have c13b0 : decide (x8_1 < (t420.length : Int)) = true := decide_eq_true c13
          clear c13
          by_cases c14 : x6_1.length < 5864062014805
          · rw [if_pos c14] at H
            have LMc14 := Aside0.mk c14
            clear c14
            obtain ⟨y436, hy436⟩ : ∃ y_ : List (S32), y_ = (x6_1 ++ [(⟨6, x7_1, 4⟩ : S32)]) := ⟨_, rfl⟩
            replace H : (crossbarref07_Of.l0 k1 l0 y436 (wrap64 (x7_1 + 4)) (wrap64 (x8_1 + 1)) t413 t414 t415 t416 t417 t418 t419 t420 t423 t424 t427 t430) = some (r1, r2) := by first | (rw [hy436]; with_reducible exact H) | (have H2_ := (Option.bind_some _ _).symm.trans H; rw [hy436]; with_reducible exact H2_) | (have H2_ := (Option.bind_some _ _).symm.trans H; with_reducible exact H2_) | with_reducible exact H | (rw [hy436]; exact H) | exact H
            have Ny436 := Aside0.mk hy436
            clear hy436
            have H' := Aside0.mk H
            clear H
            obtain ⟨hcz15_0, hcz15_1, hcz15_2, hcz15_3, hcz15_4, hcz15_5, hcz15_6, hcz15_7, hcz15_8, hcz15_9, hcz15_10, hcz15_11, hfz15_0, hfz15_1, hfz15_2, hfz15_3, hfz15_4, hfz15_5, hfz15_6, hfz15_7, hfz15_8, hfz15_9, hfz15_10, hfz15_11⟩ := bc12 BK432.out
            go_wp2_with (first | ((with_reducible refine gate_builtin (b := .append) (xs := #[.tmp 31, .tmp 34]) rfl ?_); at_builtin; refine Kd.R_append k32 (w0 := w) w.heap.size rfl (.tmp 31) (.tmp 34) 23 32 (.agg #[(.int .i64 0), (.int .i64 0), (.int .i64 0)]) 24 rfl Try.underlying23 info32 rfl (by decide) (by omega) u6 x6_1 (⟨6, x7_1, 4⟩ : S32) [.int .i64 6, .int .i64 x7_1, .int .i64 4] (fun _ => True) (fun _ => False) rfl rfl ?aP (fun _ hk => hk.elim) ?aF ?aO ?aB ?aS ?aL ?_; (case aP => exact k32_mkM _ _ _ (⟨6, x7_1, 4⟩ : S32)); (case aB => exact (pB HB)); (case aF => exact (fun _ _ => trivial)); (case aO => exact (pR HO_6)); (case aS => exact (below_size (pB HB))); (case aL => have := LMc14.out; omega); intro v437 w16 ho hb hg hat; rw [← Ny436.out] at ho; replace HO_433007 := Aside0.mk (Kd.R_over' (pR HO_433007) (Kd.R_typed (pR HO_6)) (by decide) hg); replace HO_433009 := Aside0.mk (Kd.R_over' (pR HO_433009) (Kd.R_typed (pR HO_6)) (by decide) hg); replace HO_433010 := Aside0.mk (Kd.R_over' (pR HO_433010) (Kd.R_typed (pR HO_6)) (by decide) hg); replace BK432 := Aside0.mk (blk_grown (g := gb432) (o := .cells #[.bool t413, .bool t414, .bool t415, .int .i64 t416, .int .u16 t417, .int .u32 t418, .int .u32 t419, .slice Ao7 t420.length co7, .int .u16 t423, .slice Ao8 t424.length co8, .slice Ao9 t427.length co9, .int .i64 t430] 45 (0, 0)) (pk BK432) hg (Kd.R_ne HO_6.out BK432.out (by decide))); replace HB := Aside0.mk (hb); have HO438 := Aside0.mk (ho); clear HO_6; clear ho hb hg hat))
            go_roundg k1
            case measure => have := HK1.out; omega
            case rel => exact ⟨(y436), (wrap64 (x7_1 + 4)), (wrap64 (x8_1 + 1)), (by first | rfl | (simp; done) | (simp [*]; done)), (by first | rfl | (simp; done) | (simp [*]; done)), H', ⟨by have := HK1.out; omega⟩, ⟨by (with_reducible repeat (first | apply Kd.R_alloc | apply Kd.R_drewN | apply Kd.R_drew)); exact HO438.out⟩, ⟨by (with_reducible repeat (first | apply Kd.R_alloc | apply Kd.R_drewN | apply Kd.R_drew)); exact HO_433007.out⟩, ⟨by (with_reducible repeat (first | apply Kd.R_alloc | apply Kd.R_drewN | apply Kd.R_drew)); exact HO_433009.out⟩, ⟨by (with_reducible repeat (first | apply Kd.R_alloc | apply Kd.R_drewN | apply Kd.R_drew)); exact HO_433010.out⟩, ⟨by (with_reducible repeat (first | refine blk_drewN ?_ _ | refine blk_drew ?_ | refine blk_alloc ?_ _)); exact BK432.out⟩, ⟨by repeat (first | (with_reducible first | exact HB.out | apply below_alloc | apply pw_below_drewN | apply below_drew1 | refine below_set ?_ GE432.out) | exact HB.out)⟩⟩
          rw [if_neg c14] at H
          exact absurd H (by simp)
        rw [if_neg c13] at H
        have c13b0 : decide (x8_1 < (t420.length : Int)) = false := decide_eq_false c13
        clear c13
        have HC17 := Aside0.mk H
        clear H
        obtain ⟨hcz18_0, hcz18_1, hcz18_2, hcz18_3, hcz18_4, hcz18_5, hcz18_6, hcz18_7, hcz18_8, hcz18_9, hcz18_10, hcz18_11, hfz18_0, hfz18_1, hfz18_2, hfz18_3, hfz18_4, hfz18_5, hfz18_6, hfz18_7, hfz18_8, hfz18_9, hfz18_10, hfz18_11⟩ := bc12 BK432.out
        go_upto_if 40 with (fail)
        go_cut [6, 7] (fun v6 v7 wc => ∃ (kq : Nat) (x6_16 : List (S32)) (x7_16 : Int), v7 = .int .i64 x7_16 ∧ Aside0 (crossbarref07_Of.j1 kq l0 x6_16 x7_16 t413 t414 t415 t416 t417 t418 t419 t420 t423 t424 t427 t430 = some (r1, r2)) ∧ Aside0 (kq ≤ k1) ∧ Aside0 (Kd.R k32 32 wc w.heap.size (fun _ => True) v6 x6_16) ∧ Aside0 (Kd.R (Kd.int .u32) 40 wc w.heap.size (fun _ => True) (.slice Ao7 t420.length co7) t420) ∧ Aside0 (Kd.R (Kd.int .u8) 5 wc w.heap.size (fun k_ => some k_ ≠ ((.slice Ao9 t427.length co9) : Value).ownBlock) (.slice Ao8 t424.length co8) t424) ∧ Aside0 (Kd.R (Kd.int .u8) 5 wc w.heap.size (fun k_ => some k_ ≠ ((.slice Ao8 t424.length co8) : Value).ownBlock) (.slice Ao9 t427.length co9) t427) ∧ Aside0 (wc.heap[gb432]? = some (.cells #[.bool t413, .bool t414, .bool t415, .int .i64 t416, .int .u16 t417, .int .u32 t418, .int .u32 t419, (.slice Ao7 t420.length co7), .int .u16 t423, (.slice Ao8 t424.length co8), (.slice Ao9 t427.length co9), .int .i64 t430] 45 (0, 0))) ∧ Aside0 (Below w.heap.size w wc))
        case first =>
          have H := HC17.out
          clear HC17
          by_cases c19 : t414 = true
          · subst c19
            have H1 : ((some (([(⟨7, x7_1, 2⟩ : S32), (⟨8, wrap64 (x7_1 + 2), 2⟩ : S32)] : List (S32)) : List (S32))).bind fun y439 => (if x6_1.length + y439.length < 5864062014805 then ((some (x6_1 ++ y439 : List (S32))).bind fun y442 => (if (t424.length : Int) > 0 then (if y442.length < 5864062014805 then (crossbarref07_Of.j1 k1 l0 (y442 ++ [(⟨9, wrap64 (x7_1 + 4), (t424.length : Int)⟩ : S32)]) (wrap64 ((wrap64 (x7_1 + 4)) + (t424.length : Int))) t413 true t415 t416 t417 t418 t419 t420 t423 t424 t427 t430) else (none)) else (crossbarref07_Of.j1 k1 l0 y442 (wrap64 (x7_1 + 4)) t413 true t415 t416 t417 t418 t419 t420 t423 t424 t427 t430))) else (none))) = some (r1, r2) := by rw [if_pos rfl] at H; exact H
            clear H
            have H := H1
            clear H1
            obtain ⟨y439, hy439⟩ : ∃ y_ : List (S32), y_ = (([(⟨7, x7_1, 2⟩ : S32), (⟨8, wrap64 (x7_1 + 2), 2⟩ : S32)] : List (S32))) := ⟨_, rfl⟩
            replace H : (if x6_1.length + y439.length < 5864062014805 then ((some (x6_1 ++ y439 : List (S32))).bind fun y442 => (if (t424.length : Int) > 0 then (if y442.length < 5864062014805 then (crossbarref07_Of.j1 k1 l0 (y442 ++ [(⟨9, wrap64 (x7_1 + 4), (t424.length : Int)⟩ : S32)]) (wrap64 ((wrap64 (x7_1 + 4)) + (t424.length : Int))) t413 true t415 t416 t417 t418 t419 t420 t423 t424 t427 t430) else (none)) else (crossbarref07_Of.j1 k1 l0 y442 (wrap64 (x7_1 + 4)) t413 true t415 t416 t417 t418 t419 t420 t423 t424 t427 t430))) else (none)) = some (r1, r2) := by first | (rw [hy439]; with_reducible exact H) | (have H2_ := (Option.bind_some _ _).symm.trans H; rw [hy439]; with_reducible exact H2_) | (have H2_ := (Option.bind_some _ _).symm.trans H; with_reducible exact H2_) | with_reducible exact H | (rw [hy439]; exact H) | exact H
            have Ny439 := Aside0.mk hy439
            clear hy439
            by_cases c20 : x6_1.length + y439.length < 5864062014805
            · rw [if_pos c20] at H
              have LMc20 := Aside0.mk c20
              clear c20
              obtain ⟨y442, hy442⟩ : ∃ y_ : List (S32), y_ = (x6_1 ++ y439) := ⟨_, rfl⟩
              replace H : (if (t424.length : Int) > 0 then (if y442.length < 5864062014805 then (crossbarref07_Of.j1 k1 l0 (y442 ++ [(⟨9, wrap64 (x7_1 + 4), (t424.length : Int)⟩ : S32)]) (wrap64 ((wrap64 (x7_1 + 4)) + (t424.length : Int))) t413 true t415 t416 t417 t418 t419 t420 t423 t424 t427 t430) else (none)) else (crossbarref07_Of.j1 k1 l0 y442 (wrap64 (x7_1 + 4)) t413 true t415 t416 t417 t418 t419 t420 t423 t424 t427 t430)) = some (r1, r2) := by first | (rw [hy442]; with_reducible exact H) | (have H2_ := (Option.bind_some _ _).symm.trans H; rw [hy442]; with_reducible exact H2_) | (have H2_ := (Option.bind_some _ _).symm.trans H; with_reducible exact H2_) | with_reducible exact H | (rw [hy442]; exact H) | exact H
              have Ny442 := Aside0.mk hy442
              clear hy442
              by_cases c21 : (t424.length : Int) > 0
              · rw [if_pos c21] at H
                have c21b0 : decide (0 < (t424.length : Int)) = true := decide_eq_true c21
                have c21b1 : decide (0 < t424.length) = true := decide_eq_true (by omega)
                clear c21
                (first | rw [c21b0] | (simp only [i64_w, i32_w]; rw [c21b0]) | rw [c21b1] | skip)
                by_cases c22 : y442.length < 5864062014805
                · rw [if_pos c22] at H
                  have LMc22 := Aside0.mk c22
                  clear c22
                  obtain ⟨y445, hy445⟩ : ∃ y_ : List (S32), y_ = (y442 ++ [(⟨9, wrap64 (x7_1 + 4), (t424.length : Int)⟩ : S32)]) := ⟨_, rfl⟩
                  replace H : (crossbarref07_Of.j1 k1 l0 y445 (wrap64 ((wrap64 (x7_1 + 4)) + (t424.length : Int))) t413 true t415 t416 t417 t418 t419 t420 t423 t424 t427 t430) = some (r1, r2) := by first | (rw [hy445]; with_reducible exact H) | (have H2_ := (Option.bind_some _ _).symm.trans H; rw [hy445]; with_reducible exact H2_) | (have H2_ := (Option.bind_some _ _).symm.trans H; with_reducible exact H2_) | with_reducible exact H | (rw [hy445]; exact H) | exact H
                  have Ny445 := Aside0.mk hy445
                  clear hy445
                  have H' := Aside0.mk H
                  clear H
                  go_wp2_with (first | ((with_reducible refine gate_dst (N := 47) rfl ?_); refine Kd.R_lit k32 _ 32 ?hg (N := 47) ?hd (xs := ([(⟨7, x7_1, 2⟩ : S32), (⟨8, wrap64 (x7_1 + 2), 2⟩ : S32)] : List (S32))) (inner := [.int .i64 7, .int .i64 x7_1, .int .i64 2, .int .i64 8, .int .i64 (wrap64 (x7_1 + 2)), .int .i64 2]) (ok := fun _ => True) (okp := fun _ => True) ?hr ?hp (fun _ hk => hk) trivial (Below.refl _ _) (Nat.le_refl _) (by simp) ?_; (case hd => rfl); (case hg => rfl); (case hr => first | (go_simp; done) | (go_simp; rfl)); (case hp => exact (Reps.c3 (show Kd.M k32 _ _ _ (⟨7, x7_1, 2⟩ : S32) [.int .i64 7, .int .i64 x7_1, .int .i64 2] from (k32_mkM _ _ _ (⟨7, x7_1, 2⟩ : S32) )) (Reps.c3 (show Kd.M k32 _ _ _ (⟨8, wrap64 (x7_1 + 2), 2⟩ : S32) [.int .i64 8, .int .i64 (wrap64 (x7_1 + 2)), .int .i64 2] from (k32_mkM _ _ _ (⟨8, wrap64 (x7_1 + 2), 2⟩ : S32) )) (Reps.none _ _)))); intro v440 w23 ho24 hb hg_ hnew_; clear hg_ hnew_; (first | rw [← Ny439.out] at ho24 | (simp only [Int.reduceToNat] at ho24; rw [← Ny439.out] at ho24)); have n0_ := Aside0.mk (Kd.R_elder' (pR HO_6) (Kd.R_base ho24) hb); replace HO_433007 := rbE HO_433007 hb; replace HO_433009 := rbE HO_433009 hb; replace HO_433010 := rbE HO_433010 hb; have HO441 := Aside0.mk (Kd.R_lower (Kd.R_new' ho24 (Kd.R_lt (pR HO_6))) (below_size (pB HB))); replace BK432 := bbE BK432 hb; replace HB := bstE HB hb; clear HO_6; have HO_6 := n0_; clear n0_; clear hb ho24; obtain ⟨Ao26, co26, eo26⟩ := Kd.R_slice HO441.out; subst eo26) | ((with_reducible refine gate_builtin (b := .append) (xs := #[.tmp 41, .tmp 47]) rfl ?_); at_builtin; refine Kd.R_append_rows k32 (w0 := w) w.heap.size rfl (.tmp 41) (.tmp 47) 23 32 (.agg #[(.int .i64 0), (.int .i64 0), (.int .i64 0)]) 24 rfl Try.underlying23 info32 rfl (by decide) (by omega) u6 x6_1 y439 _ _ _ (fun k_ => some k_ ≠ (.slice Ao26 y439.length co26 : Value).ownBlock) (fun _ => False) rfl rfl ?aO ?aR (fun _ _ h => h) (fun _ h => h.elim) ?aF ?aB ?aS ?aL ?_; (case aR => repeat (first | exact (Kd.R_reads' HO441.out).2.2 | (with_reducible refine Kd.C_alloc ?_ _) | (with_reducible refine Kd.C_drewN ?_ _) | (with_reducible refine Kd.C_drew ?_))); (case aB => exact (pB HB)); (case aF => exact (fun k_ hk => Kd.fresh' (Kd.R_lt (pR HO441)) k_ hk)); (case aO => exact (by (with_reducible repeat (first | apply Kd.R_alloc | apply Kd.R_drewN | apply Kd.R_drew)); exact Kd.R_mono HO_6.out (fun _ hk => hk.2))); (case aS => exact (below_size (pB HB))); (case aL => have := LMc20.out; omega); intro v443 w25 ho hb hg hat; rw [← Ny442.out] at ho; replace HO_433007 := Aside0.mk (Kd.R_over' (pR HO_433007) (Kd.R_typed (pR HO_6)) (by decide) hg); replace HO_433009 := Aside0.mk (Kd.R_over' (pR HO_433009) (Kd.R_typed (pR HO_6)) (by decide) hg); replace HO_433010 := Aside0.mk (Kd.R_over' (pR HO_433010) (Kd.R_typed (pR HO_6)) (by decide) hg); replace BK432 := Aside0.mk (blk_grown (g := gb432) (o := .cells #[.bool t413, .bool true, .bool t415, .int .i64 t416, .int .u16 t417, .int .u32 t418, .int .u32 t419, .slice Ao7 t420.length co7, .int .u16 t423, .slice Ao8 t424.length co8, .slice Ao9 t427.length co9, .int .i64 t430] 45 (0, 0)) (pk BK432) hg (Kd.R_ne HO_6.out BK432.out (by decide))); replace HO441 := Aside0.mk (Kd.R_after (ok := (fun _ => True)) (pR HO441) hg hat); replace HB := Aside0.mk (hb); have HO444 := Aside0.mk (ho); clear HO_6; clear ho hb hg hat; obtain ⟨hcz27_0, hcz27_1, hcz27_2, hcz27_3, hcz27_4, hcz27_5, hcz27_6, hcz27_7, hcz27_8, hcz27_9, hcz27_10, hcz27_11, hfz27_0, hfz27_1, hfz27_2, hfz27_3, hfz27_4, hfz27_5, hfz27_6, hfz27_7, hfz27_8, hfz27_9, hfz27_10, hfz27_11⟩ := bc12 BK432.out) | ((with_reducible refine gate_builtin (b := .append) (xs := #[.tmp 55, .tmp 61]) rfl ?_); at_builtin; refine Kd.R_append k32 (w0 := w) w.heap.size rfl (.tmp 55) (.tmp 61) 23 32 (.agg #[(.int .i64 0), (.int .i64 0), (.int .i64 0)]) 24 rfl Try.underlying23 info32 rfl (by decide) (by omega) v443 y442 (⟨9, wrap64 (x7_1 + 4), (t424.length : Int)⟩ : S32) [.int .i64 9, .int .i64 (wrap64 (x7_1 + 4)), .int .i64 (t424.length : Int)] (fun k_ => some k_ ≠ (.slice Ao26 y439.length co26 : Value).ownBlock) (fun _ => False) rfl rfl ?aP (fun _ hk => hk.elim) ?aF ?aO ?aB ?aS ?aL ?_; (case aP => exact k32_mkM _ _ _ (⟨9, wrap64 (x7_1 + 4), (t424.length : Int)⟩ : S32)); (case aB => exact (pB HB)); (case aF => exact (fun k_ hk => Kd.fresh' (Kd.R_lt (pR HO441)) k_ hk)); (case aO => exact (pR HO444)); (case aS => exact (below_size (pB HB))); (case aL => have := LMc22.out; omega); intro v446 w28 ho hb hg hat; rw [← Ny445.out] at ho; replace HO_433007 := Aside0.mk (Kd.R_over' (pR HO_433007) (Kd.R_typed (pR HO444)) (by decide) hg); replace HO_433009 := Aside0.mk (Kd.R_over' (pR HO_433009) (Kd.R_typed (pR HO444)) (by decide) hg); replace HO_433010 := Aside0.mk (Kd.R_over' (pR HO_433010) (Kd.R_typed (pR HO444)) (by decide) hg); replace BK432 := Aside0.mk (blk_grown (g := gb432) (o := .cells #[.bool t413, .bool true, .bool t415, .int .i64 t416, .int .u16 t417, .int .u32 t418, .int .u32 t419, .slice Ao7 t420.length co7, .int .u16 t423, .slice Ao8 t424.length co8, .slice Ao9 t427.length co9, .int .i64 t430] 45 (0, 0)) (pk BK432) hg (Kd.R_ne HO444.out BK432.out (by decide))); replace HO441 := Aside0.mk (Kd.R_after (ok := (fun _ => True)) (pR HO441) hg hat); replace HB := Aside0.mk (hb); have HO447 := Aside0.mk (ho); clear HO444; clear ho hb hg hat; obtain ⟨hcz29_0, hcz29_1, hcz29_2, hcz29_3, hcz29_4, hcz29_5, hcz29_6, hcz29_7, hcz29_8, hcz29_9, hcz29_10, hcz29_11, hfz29_0, hfz29_1, hfz29_2, hfz29_3, hfz29_4, hfz29_5, hfz29_6, hfz29_7, hfz29_8, hfz29_9, hfz29_10, hfz29_11⟩ := bc12 BK432.out))
                  go_meet
                  case rel => exact ⟨_, (y445), (wrap64 ((wrap64 (x7_1 + 4)) + (t424.length : Int))), (by first | rfl | (simp; done) | (simp [*]; done)), H', ⟨by have := HK1.out; first | omega | exact Nat.le_refl _⟩, ⟨by (with_reducible repeat (first | apply Kd.R_alloc | apply Kd.R_drewN | apply Kd.R_drew)); exact Kd.R_mono HO447.out (fun _ hk => trivial)⟩, ⟨by (with_reducible repeat (first | apply Kd.R_alloc | apply Kd.R_drewN | apply Kd.R_drew)); exact HO_433007.out⟩, ⟨by (with_reducible repeat (first | apply Kd.R_alloc | apply Kd.R_drewN | apply Kd.R_drew)); exact HO_433009.out⟩, ⟨by (with_reducible repeat (first | apply Kd.R_alloc | apply Kd.R_drewN | apply Kd.R_drew)); exact HO_433010.out⟩, ⟨by (with_reducible repeat (first | refine blk_drewN ?_ _ | refine blk_drew ?_ | refine blk_alloc ?_ _)); exact BK432.out⟩, ⟨by repeat (first | (with_reducible first | exact HB.out | apply below_alloc | apply pw_below_drewN | apply below_drew1 | refine below_set ?_ GE432.out) | exact HB.out)⟩⟩
                rw [if_neg c22] at H
                exact absurd H (by simp)
              rw [if_neg c21] at H
              have c21b0 : decide (0 < (t424.length : Int)) = false := decide_eq_false c21
              have c21b1 : decide (0 < t424.length) = false := decide_eq_false (by omega)
              clear c21
              (first | rw [c21b0] | (simp only [i64_w, i32_w]; rw [c21b0]) | rw [c21b1] | skip)
              have H' := Aside0.mk H
              clear H
              go_wp2_with (first | ((with_reducible refine gate_dst (N := 47) rfl ?_); refine Kd.R_lit k32 _ 32 ?hg (N := 47) ?hd (xs := ([(⟨7, x7_1, 2⟩ : S32), (⟨8, wrap64 (x7_1 + 2), 2⟩ : S32)] : List (S32))) (inner := [.int .i64 7, .int .i64 x7_1, .int .i64 2, .int .i64 8, .int .i64 (wrap64 (x7_1 + 2)), .int .i64 2]) (ok := fun _ => True) (okp := fun _ => True) ?hr ?hp (fun _ hk => hk) trivial (Below.refl _ _) (Nat.le_refl _) (by simp) ?_; (case hd => rfl); (case hg => rfl); (case hr => first | (go_simp; done) | (go_simp; rfl)); (case hp => exact (Reps.c3 (show Kd.M k32 _ _ _ (⟨7, x7_1, 2⟩ : S32) [.int .i64 7, .int .i64 x7_1, .int .i64 2] from (k32_mkM _ _ _ (⟨7, x7_1, 2⟩ : S32) )) (Reps.c3 (show Kd.M k32 _ _ _ (⟨8, wrap64 (x7_1 + 2), 2⟩ : S32) [.int .i64 8, .int .i64 (wrap64 (x7_1 + 2)), .int .i64 2] from (k32_mkM _ _ _ (⟨8, wrap64 (x7_1 + 2), 2⟩ : S32) )) (Reps.none _ _)))); intro v440 w30 ho31 hb hg_ hnew_; clear hg_ hnew_; (first | rw [← Ny439.out] at ho31 | (simp only [Int.reduceToNat] at ho31; rw [← Ny439.out] at ho31)); have n0_ := Aside0.mk (Kd.R_elder' (pR HO_6) (Kd.R_base ho31) hb); replace HO_433007 := rbE HO_433007 hb; replace HO_433009 := rbE HO_433009 hb; replace HO_433010 := rbE HO_433010 hb; have HO441 := Aside0.mk (Kd.R_lower (Kd.R_new' ho31 (Kd.R_lt (pR HO_6))) (below_size (pB HB))); replace BK432 := bbE BK432 hb; replace HB := bstE HB hb; clear HO_6; have HO_6 := n0_; clear n0_; clear hb ho31; obtain ⟨Ao33, co33, eo33⟩ := Kd.R_slice HO441.out; subst eo33) | ((with_reducible refine gate_builtin (b := .append) (xs := #[.tmp 41, .tmp 47]) rfl ?_); at_builtin; refine Kd.R_append_rows k32 (w0 := w) w.heap.size rfl (.tmp 41) (.tmp 47) 23 32 (.agg #[(.int .i64 0), (.int .i64 0), (.int .i64 0)]) 24 rfl Try.underlying23 info32 rfl (by decide) (by omega) u6 x6_1 y439 _ _ _ (fun k_ => some k_ ≠ (.slice Ao33 y439.length co33 : Value).ownBlock) (fun _ => False) rfl rfl ?aO ?aR (fun _ _ h => h) (fun _ h => h.elim) ?aF ?aB ?aS ?aL ?_; (case aR => repeat (first | exact (Kd.R_reads' HO441.out).2.2 | (with_reducible refine Kd.C_alloc ?_ _) | (with_reducible refine Kd.C_drewN ?_ _) | (with_reducible refine Kd.C_drew ?_))); (case aB => exact (pB HB)); (case aF => exact (fun k_ hk => Kd.fresh' (Kd.R_lt (pR HO441)) k_ hk)); (case aO => exact (by (with_reducible repeat (first | apply Kd.R_alloc | apply Kd.R_drewN | apply Kd.R_drew)); exact Kd.R_mono HO_6.out (fun _ hk => hk.2))); (case aS => exact (below_size (pB HB))); (case aL => have := LMc20.out; omega); intro v443 w32 ho hb hg hat; rw [← Ny442.out] at ho; replace HO_433007 := Aside0.mk (Kd.R_over' (pR HO_433007) (Kd.R_typed (pR HO_6)) (by decide) hg); replace HO_433009 := Aside0.mk (Kd.R_over' (pR HO_433009) (Kd.R_typed (pR HO_6)) (by decide) hg); replace HO_433010 := Aside0.mk (Kd.R_over' (pR HO_433010) (Kd.R_typed (pR HO_6)) (by decide) hg); replace BK432 := Aside0.mk (blk_grown (g := gb432) (o := .cells #[.bool t413, .bool true, .bool t415, .int .i64 t416, .int .u16 t417, .int .u32 t418, .int .u32 t419, .slice Ao7 t420.length co7, .int .u16 t423, .slice Ao8 t424.length co8, .slice Ao9 t427.length co9, .int .i64 t430] 45 (0, 0)) (pk BK432) hg (Kd.R_ne HO_6.out BK432.out (by decide))); replace HO441 := Aside0.mk (Kd.R_after (ok := (fun _ => True)) (pR HO441) hg hat); replace HB := Aside0.mk (hb); have HO444 := Aside0.mk (ho); clear HO_6; clear ho hb hg hat; obtain ⟨hcz34_0, hcz34_1, hcz34_2, hcz34_3, hcz34_4, hcz34_5, hcz34_6, hcz34_7, hcz34_8, hcz34_9, hcz34_10, hcz34_11, hfz34_0, hfz34_1, hfz34_2, hfz34_3, hfz34_4, hfz34_5, hfz34_6, hfz34_7, hfz34_8, hfz34_9, hfz34_10, hfz34_11⟩ := bc12 BK432.out))
              go_meet
              case rel => exact ⟨_, (y442), (wrap64 (x7_1 + 4)), (by first | rfl | (simp; done) | (simp [*]; done)), H', ⟨by have := HK1.out; first | omega | exact Nat.le_refl _⟩, ⟨by (with_reducible repeat (first | apply Kd.R_alloc | apply Kd.R_drewN | apply Kd.R_drew)); exact Kd.R_mono HO444.out (fun _ hk => trivial)⟩, ⟨by (with_reducible repeat (first | apply Kd.R_alloc | apply Kd.R_drewN | apply Kd.R_drew)); exact HO_433007.out⟩, ⟨by (with_reducible repeat (first | apply Kd.R_alloc | apply Kd.R_drewN | apply Kd.R_drew)); exact HO_433009.out⟩, ⟨by (with_reducible repeat (first | apply Kd.R_alloc | apply Kd.R_drewN | apply Kd.R_drew)); exact HO_433010.out⟩, ⟨by (with_reducible repeat (first | refine blk_drewN ?_ _ | refine blk_drew ?_ | refine blk_alloc ?_ _)); exact BK432.out⟩, ⟨by repeat (first | (with_reducible first | exact HB.out | apply below_alloc | apply pw_below_drewN | apply below_drew1 | refine below_set ?_ GE432.out) | exact HB.out)⟩⟩
            rw [if_neg c20] at H
            exact absurd H (by simp)
          replace c19 := Bool.eq_false_iff.mpr c19
          subst c19
          have H1 : (crossbarref07_Of.j1 k1 l0 x6_1 x7_1 t413 false t415 t416 t417 t418 t419 t420 t423 t424 t427 t430) = some (r1, r2) := by rw [if_neg (show ¬ (false = true) by decide)] at H; exact H
          clear H
          have H := H1
          clear H1
          have H' := Aside0.mk H
          clear H
          go_wp2
          go_meet
          case rel => exact ⟨_, (x6_1), (x7_1), (by first | rfl | (simp; done) | (simp [*]; done)), H', ⟨by have := HK1.out; first | omega | exact Nat.le_refl _⟩, ⟨by (with_reducible repeat (first | apply Kd.R_alloc | apply Kd.R_drewN | apply Kd.R_drew)); exact HO_6.out⟩, ⟨by (with_reducible repeat (first | apply Kd.R_alloc | apply Kd.R_drewN | apply Kd.R_drew)); exact HO_433007.out⟩, ⟨by (with_reducible repeat (first | apply Kd.R_alloc | apply Kd.R_drewN | apply Kd.R_drew)); exact HO_433009.out⟩, ⟨by (with_reducible repeat (first | apply Kd.R_alloc | apply Kd.R_drewN | apply Kd.R_drew)); exact HO_433010.out⟩, ⟨by (with_reducible repeat (first | refine blk_drewN ?_ _ | refine blk_drew ?_ | refine blk_alloc ?_ _)); exact BK432.out⟩, ⟨by repeat (first | (with_reducible first | exact HB.out | apply below_alloc | apply pw_below_drewN | apply below_drew1 | refine below_set ?_ GE432.out) | exact HB.out)⟩⟩
        case rest =>
          clear HC17
          try clear c1
          try clear c2
          try clear p2
          try clear c3
          try clear c3b0
          try clear c3b1
          try clear p6
          try clear c11
          try clear c13
          try clear c13b0
          try clear c14
          try clear c19
          try clear c20
          try clear c21
          try clear c21b0
          try clear c21b1
          try clear c22
          try clear c26
          try clear hcz15_0
          try clear hcz15_1
          try clear hcz15_10
          try clear hcz15_11
          try clear hcz15_2
          try clear hcz15_3
          try clear hcz15_4
          try clear hcz15_5
          try clear hcz15_6
          try clear hcz15_7
          try clear hcz15_8
          try clear hcz15_9
          try clear hcz18_0
          try clear hcz18_1
          try clear hcz18_10
          try clear hcz18_11
          try clear hcz18_2
          try clear hcz18_3
          try clear hcz18_4
          try clear hcz18_5
          try clear hcz18_6
          try clear hcz18_7
          try clear hcz18_8
          try clear hcz18_9
          try clear hcz27_0
          try clear hcz27_1
          try clear hcz27_10
          try clear hcz27_11
          try clear hcz27_2
          try clear hcz27_3
          try clear hcz27_4
          try clear hcz27_5
          try clear hcz27_6
          try clear hcz27_7
          try clear hcz27_8
          try clear hcz27_9
          try clear hcz29_0
          try clear hcz29_1
          try clear hcz29_10
          try clear hcz29_11
          try clear hcz29_2
          try clear hcz29_3
          try clear hcz29_4
          try clear hcz29_5
          try clear hcz29_6
          try clear hcz29_7
          try clear hcz29_8
          try clear hcz29_9
          try clear hcz34_0
          try clear hcz34_1
          try clear hcz34_10
          try clear hcz34_11
          try clear hcz34_2
          try clear hcz34_3
          try clear hcz34_4
          try clear hcz34_5
          try clear hcz34_6
          try clear hcz34_7
          try clear hcz34_8
          try clear hcz34_9
          try clear hcz6_0
          try clear hcz6_1
          try clear hcz6_10
          try clear hcz6_11
          try clear hcz6_2
          try clear hcz6_3
          try clear hcz6_4
          try clear hcz6_5
          try clear hcz6_6
          try clear hcz6_7
          try clear hcz6_8
          try clear hcz6_9
          try clear hfz15_0
          try clear hfz15_1
          try clear hfz15_10
          try clear hfz15_11
          try clear hfz15_2
          try clear hfz15_3
          try clear hfz15_4
          try clear hfz15_5
          try clear hfz15_6
          try clear hfz15_7
          try clear hfz15_8
          try clear hfz15_9
          try clear hfz18_0
          try clear hfz18_1
          try clear hfz18_10
          try clear hfz18_11
          try clear hfz18_2
          try clear hfz18_3
          try clear hfz18_4
          try clear hfz18_5
          try clear hfz18_6
          try clear hfz18_7
          try clear hfz18_8
          try clear hfz18_9
          try clear hfz27_0
          try clear hfz27_1
          try clear hfz27_10
          try clear hfz27_11
          try clear hfz27_2
          try clear hfz27_3
          try clear hfz27_4
          try clear hfz27_5
          try clear hfz27_6
          try clear hfz27_7
          try clear hfz27_8
          try clear hfz27_9
          try clear hfz29_0
          try clear hfz29_1
          try clear hfz29_10
          try clear hfz29_11
          try clear hfz29_2
          try clear hfz29_3
          try clear hfz29_4
          try clear hfz29_5
          try clear hfz29_6
          try clear hfz29_7
          try clear hfz29_8
          try clear hfz29_9
          try clear hfz34_0
          try clear hfz34_1
          try clear hfz34_10
          try clear hfz34_11
          try clear hfz34_2
          try clear hfz34_3
          try clear hfz34_4
          try clear hfz34_5
          try clear hfz34_6
          try clear hfz34_7
          try clear hfz34_8
          try clear hfz34_9
          try clear hfz6_0
          try clear hfz6_1
          try clear hfz6_10
          try clear hfz6_11
          try clear hfz6_2
          try clear hfz6_3
          try clear hfz6_4
          try clear hfz6_5
          try clear hfz6_6
          try clear hfz6_7
          try clear hfz6_8
          try clear hfz6_9
          try clear p2
          obtain ⟨kq, x6_16, x7_16, rfl, HA, HJ16, HO_6, HO_433007, HO_433009, HO_433010, BK432, HB⟩ := hcut
          cases kq with
          | zero => exact absurd HA.out (by simp [crossbarref07_Of.j1])
          | succ kj16 =>
            have H := HA.out
            clear HA
            simp only [crossbarref07_Of.j1] at H
            have HC35 := Aside0.mk H
            clear H
            obtain ⟨hcz36_0, hcz36_1, hcz36_2, hcz36_3, hcz36_4, hcz36_5, hcz36_6, hcz36_7, hcz36_8, hcz36_9, hcz36_10, hcz36_11, hfz36_0, hfz36_1, hfz36_2, hfz36_3, hfz36_4, hfz36_5, hfz36_6, hfz36_7, hfz36_8, hfz36_9, hfz36_10, hfz36_11⟩ := bc12 BK432.out
            go_upto_if 71 with (fail)
            go_cut [6, 7] (fun v6 v7 wc => ∃ (kq : Nat) (x6_34 : List (S32)) (x7_34 : Int), v7 = .int .i64 x7_34 ∧ Aside0 (crossbarref07_Of.j2 kq l0 x6_34 x7_34 t413 t414 t415 t416 t417 t418 t419 t420 t423 t424 t427 t430 = some (r1, r2)) ∧ Aside0 (kq ≤ kj16) ∧ Aside0 (Kd.R k32 32 wc w.heap.size (fun _ => True) v6 x6_34) ∧ Aside0 (Kd.R (Kd.int .u32) 40 wc w.heap.size (fun _ => True) (.slice Ao7 t420.length co7) t420) ∧ Aside0 (Kd.R (Kd.int .u8) 5 wc w.heap.size (fun k_ => some k_ ≠ ((.slice Ao9 t427.length co9) : Value).ownBlock) (.slice Ao8 t424.length co8) t424) ∧ Aside0 (Kd.R (Kd.int .u8) 5 wc w.heap.size (fun k_ => some k_ ≠ ((.slice Ao8 t424.length co8) : Value).ownBlock) (.slice Ao9 t427.length co9) t427) ∧ Aside0 (wc.heap[gb432]? = some (.cells #[.bool t413, .bool t414, .bool t415, .int .i64 t416, .int .u16 t417, .int .u32 t418, .int .u32 t419, (.slice Ao7 t420.length co7), .int .u16 t423, (.slice Ao8 t424.length co8), (.slice Ao9 t427.length co9), .int .i64 t430] 45 (0, 0))) ∧ Aside0 (Below w.heap.size w wc))
            case first =>
              have H := HC35.out
              clear HC35
              by_cases c37 : (t427.length : Int) > 0
              · rw [if_pos c37] at H
                have c37b0 : decide (0 < (t427.length : Int)) = true := decide_eq_true c37
                have c37b1 : decide (0 < t427.length) = true := decide_eq_true (by omega)
                clear c37
                (first | rw [c37b0] | (simp only [i64_w, i32_w]; rw [c37b0]) | rw [c37b1] | skip)
                by_cases c38 : x6_16.length < 5864062014805
                · rw [if_pos c38] at H
                  have LMc38 := Aside0.mk c38
                  clear c38
                  obtain ⟨y448, hy448⟩ : ∃ y_ : List (S32), y_ = (x6_16 ++ [(⟨10, x7_16, (t427.length : Int)⟩ : S32)]) := ⟨_, rfl⟩
                  replace H : (crossbarref07_Of.j2 kj16 l0 y448 (wrap64 (x7_16 + (t427.length : Int))) t413 t414 t415 t416 t417 t418 t419 t420 t423 t424 t427 t430) = some (r1, r2) := by first | (rw [hy448]; with_reducible exact H) | (have H2_ := (Option.bind_some _ _).symm.trans H; rw [hy448]; with_reducible exact H2_) | (have H2_ := (Option.bind_some _ _).symm.trans H; with_reducible exact H2_) | with_reducible exact H | (rw [hy448]; exact H) | exact H
                  have Ny448 := Aside0.mk hy448
                  clear hy448
                  have H' := Aside0.mk H
                  clear H
                  obtain ⟨hcz39_0, hcz39_1, hcz39_2, hcz39_3, hcz39_4, hcz39_5, hcz39_6, hcz39_7, hcz39_8, hcz39_9, hcz39_10, hcz39_11, hfz39_0, hfz39_1, hfz39_2, hfz39_3, hfz39_4, hfz39_5, hfz39_6, hfz39_7, hfz39_8, hfz39_9, hfz39_10, hfz39_11⟩ := bc12 BK432.out
                  go_wp2_with (first | ((with_reducible refine gate_builtin (b := .append) (xs := #[.tmp 72, .tmp 78]) rfl ?_); at_builtin; refine Kd.R_append k32 (w0 := w) w.heap.size rfl (.tmp 72) (.tmp 78) 23 32 (.agg #[(.int .i64 0), (.int .i64 0), (.int .i64 0)]) 24 rfl Try.underlying23 info32 rfl (by decide) (by omega) u6 x6_16 (⟨10, x7_16, (t427.length : Int)⟩ : S32) [.int .i64 10, .int .i64 x7_16, .int .i64 (t427.length : Int)] (fun _ => True) (fun _ => False) rfl rfl ?aP (fun _ hk => hk.elim) ?aF ?aO ?aB ?aS ?aL ?_; (case aP => exact k32_mkM _ _ _ (⟨10, x7_16, (t427.length : Int)⟩ : S32)); (case aB => exact (pB HB)); (case aF => exact (fun _ _ => trivial)); (case aO => exact (pR HO_6)); (case aS => exact (below_size (pB HB))); (case aL => have := LMc38.out; omega); intro v449 w40 ho hb hg hat; rw [← Ny448.out] at ho; replace HO_433007 := Aside0.mk (Kd.R_over' (pR HO_433007) (Kd.R_typed (pR HO_6)) (by decide) hg); replace HO_433009 := Aside0.mk (Kd.R_over' (pR HO_433009) (Kd.R_typed (pR HO_6)) (by decide) hg); replace HO_433010 := Aside0.mk (Kd.R_over' (pR HO_433010) (Kd.R_typed (pR HO_6)) (by decide) hg); replace BK432 := Aside0.mk (blk_grown (g := gb432) (o := .cells #[.bool t413, .bool t414, .bool t415, .int .i64 t416, .int .u16 t417, .int .u32 t418, .int .u32 t419, .slice Ao7 t420.length co7, .int .u16 t423, .slice Ao8 t424.length co8, .slice Ao9 t427.length co9, .int .i64 t430] 45 (0, 0)) (pk BK432) hg (Kd.R_ne HO_6.out BK432.out (by decide))); replace HB := Aside0.mk (hb); have HO450 := Aside0.mk (ho); clear HO_6; clear ho hb hg hat; obtain ⟨hcz41_0, hcz41_1, hcz41_2, hcz41_3, hcz41_4, hcz41_5, hcz41_6, hcz41_7, hcz41_8, hcz41_9, hcz41_10, hcz41_11, hfz41_0, hfz41_1, hfz41_2, hfz41_3, hfz41_4, hfz41_5, hfz41_6, hfz41_7, hfz41_8, hfz41_9, hfz41_10, hfz41_11⟩ := bc12 BK432.out))
                  go_meet
                  case rel => exact ⟨_, (y448), (wrap64 (x7_16 + (t427.length : Int))), (by first | rfl | (simp; done) | (simp [*]; done)), H', ⟨by have := HK1.out; have := HJ16.out; first | omega | exact Nat.le_refl _⟩, ⟨by (with_reducible repeat (first | apply Kd.R_alloc | apply Kd.R_drewN | apply Kd.R_drew)); exact HO450.out⟩, ⟨by (with_reducible repeat (first | apply Kd.R_alloc | apply Kd.R_drewN | apply Kd.R_drew)); exact HO_433007.out⟩, ⟨by (with_reducible repeat (first | apply Kd.R_alloc | apply Kd.R_drewN | apply Kd.R_drew)); exact HO_433009.out⟩, ⟨by (with_reducible repeat (first | apply Kd.R_alloc | apply Kd.R_drewN | apply Kd.R_drew)); exact HO_433010.out⟩, ⟨by (with_reducible repeat (first | refine blk_drewN ?_ _ | refine blk_drew ?_ | refine blk_alloc ?_ _)); exact BK432.out⟩, ⟨by repeat (first | (with_reducible first | exact HB.out | apply below_alloc | apply pw_below_drewN | apply below_drew1 | refine below_set ?_ GE432.out) | exact HB.out)⟩⟩
                rw [if_neg c38] at H
                exact absurd H (by simp)
              rw [if_neg c37] at H
              have c37b0 : decide (0 < (t427.length : Int)) = false := decide_eq_false c37
              have c37b1 : decide (0 < t427.length) = false := decide_eq_false (by omega)
              clear c37
              (first | rw [c37b0] | (simp only [i64_w, i32_w]; rw [c37b0]) | rw [c37b1] | skip)
              have H' := Aside0.mk H
              clear H
              go_wp2
              go_meet
              case rel => exact ⟨_, (x6_16), (x7_16), (by first | rfl | (simp; done) | (simp [*]; done)), H', ⟨by have := HK1.out; have := HJ16.out; first | omega | exact Nat.le_refl _⟩, ⟨by (with_reducible repeat (first | apply Kd.R_alloc | apply Kd.R_drewN | apply Kd.R_drew)); exact HO_6.out⟩, ⟨by (with_reducible repeat (first | apply Kd.R_alloc | apply Kd.R_drewN | apply Kd.R_drew)); exact HO_433007.out⟩, ⟨by (with_reducible repeat (first | apply Kd.R_alloc | apply Kd.R_drewN | apply Kd.R_drew)); exact HO_433009.out⟩, ⟨by (with_reducible repeat (first | apply Kd.R_alloc | apply Kd.R_drewN | apply Kd.R_drew)); exact HO_433010.out⟩, ⟨by (with_reducible repeat (first | refine blk_drewN ?_ _ | refine blk_drew ?_ | refine blk_alloc ?_ _)); exact BK432.out⟩, ⟨by repeat (first | (with_reducible first | exact HB.out | apply below_alloc | apply pw_below_drewN | apply below_drew1 | refine below_set ?_ GE432.out) | exact HB.out)⟩⟩
            case rest =>
              clear HC35
              try clear c1
              try clear c2
              try clear p2
              try clear c3
              try clear c3b0
              try clear c3b1
              try clear p6
              try clear c11
              try clear c13
              try clear c13b0
              try clear c14
              try clear c19
              try clear c20
              try clear c21
              try clear c21b0
              try clear c21b1
              try clear c22
              try clear c26
              try clear c37
              try clear c37b0
              try clear c37b1
              try clear c38
              try clear hcz15_0
              try clear hcz15_1
              try clear hcz15_10
              try clear hcz15_11
              try clear hcz15_2
              try clear hcz15_3
              try clear hcz15_4
              try clear hcz15_5
              try clear hcz15_6
              try clear hcz15_7
              try clear hcz15_8
              try clear hcz15_9
              try clear hcz18_0
              try clear hcz18_1
              try clear hcz18_10
              try clear hcz18_11
              try clear hcz18_2
              try clear hcz18_3
              try clear hcz18_4
              try clear hcz18_5
              try clear hcz18_6
              try clear hcz18_7
              try clear hcz18_8
              try clear hcz18_9
              try clear hcz27_0
              try clear hcz27_1
              try clear hcz27_10
              try clear hcz27_11
              try clear hcz27_2
              try clear hcz27_3
              try clear hcz27_4
              try clear hcz27_5
              try clear hcz27_6
              try clear hcz27_7
              try clear hcz27_8
              try clear hcz27_9
              try clear hcz29_0
              try clear hcz29_1
              try clear hcz29_10
              try clear hcz29_11
              try clear hcz29_2
              try clear hcz29_3
              try clear hcz29_4
              try clear hcz29_5
              try clear hcz29_6
              try clear hcz29_7
              try clear hcz29_8
              try clear hcz29_9
              try clear hcz34_0
              try clear hcz34_1
              try clear hcz34_10
              try clear hcz34_11
              try clear hcz34_2
              try clear hcz34_3
              try clear hcz34_4
              try clear hcz34_5
              try clear hcz34_6
              try clear hcz34_7
              try clear hcz34_8
              try clear hcz34_9
              try clear hcz36_0
              try clear hcz36_1
              try clear hcz36_10
              try clear hcz36_11
              try clear hcz36_2
              try clear hcz36_3
              try clear hcz36_4
              try clear hcz36_5
              try clear hcz36_6
              try clear hcz36_7
              try clear hcz36_8
              try clear hcz36_9
              try clear hcz39_0
              try clear hcz39_1
              try clear hcz39_10
              try clear hcz39_11
              try clear hcz39_2
              try clear hcz39_3
              try clear hcz39_4
              try clear hcz39_5
              try clear hcz39_6
              try clear hcz39_7
              try clear hcz39_8
              try clear hcz39_9
              try clear hcz41_0
              try clear hcz41_1
              try clear hcz41_10
              try clear hcz41_11
              try clear hcz41_2
              try clear hcz41_3
              try clear hcz41_4
              try clear hcz41_5
              try clear hcz41_6
              try clear hcz41_7
              try clear hcz41_8
              try clear hcz41_9
              try clear hcz6_0
              try clear hcz6_1
              try clear hcz6_10
              try clear hcz6_11
              try clear hcz6_2
              try clear hcz6_3
              try clear hcz6_4
              try clear hcz6_5
              try clear hcz6_6
              try clear hcz6_7
              try clear hcz6_8
              try clear hcz6_9
              try clear hfz15_0
              try clear hfz15_1
              try clear hfz15_10
              try clear hfz15_11
              try clear hfz15_2
              try clear hfz15_3
              try clear hfz15_4
              try clear hfz15_5
              try clear hfz15_6
              try clear hfz15_7
              try clear hfz15_8
              try clear hfz15_9
              try clear hfz18_0
              try clear hfz18_1
              try clear hfz18_10
              try clear hfz18_11
              try clear hfz18_2
              try clear hfz18_3
              try clear hfz18_4
              try clear hfz18_5
              try clear hfz18_6
              try clear hfz18_7
              try clear hfz18_8
              try clear hfz18_9
              try clear hfz27_0
              try clear hfz27_1
              try clear hfz27_10
              try clear hfz27_11
              try clear hfz27_2
              try clear hfz27_3
              try clear hfz27_4
              try clear hfz27_5
              try clear hfz27_6
              try clear hfz27_7
              try clear hfz27_8
              try clear hfz27_9
              try clear hfz29_0
              try clear hfz29_1
              try clear hfz29_10
              try clear hfz29_11
              try clear hfz29_2
              try clear hfz29_3
              try clear hfz29_4
              try clear hfz29_5
              try clear hfz29_6
              try clear hfz29_7
              try clear hfz29_8
              try clear hfz29_9
              try clear hfz34_0
              try clear hfz34_1
              try clear hfz34_10
              try clear hfz34_11
              try clear hfz34_2
              try clear hfz34_3
              try clear hfz34_4
              try clear hfz34_5
              try clear hfz34_6
              try clear hfz34_7
              try clear hfz34_8
              try clear hfz34_9
              try clear hfz36_0
              try clear hfz36_1
              try clear hfz36_10
              try clear hfz36_11
              try clear hfz36_2
              try clear hfz36_3
              try clear hfz36_4
              try clear hfz36_5
              try clear hfz36_6
              try clear hfz36_7
              try clear hfz36_8
              try clear hfz36_9
              try clear hfz39_0
              try clear hfz39_1
              try clear hfz39_10
              try clear hfz39_11
              try clear hfz39_2
              try clear hfz39_3
              try clear hfz39_4
              try clear hfz39_5
              try clear hfz39_6
              try clear hfz39_7
              try clear hfz39_8
              try clear hfz39_9
              try clear hfz41_0
              try clear hfz41_1
              try clear hfz41_10
              try clear hfz41_11
              try clear hfz41_2
              try clear hfz41_3
              try clear hfz41_4
              try clear hfz41_5
              try clear hfz41_6
              try clear hfz41_7
              try clear hfz41_8
              try clear hfz41_9
              try clear hfz6_0
              try clear hfz6_1
              try clear hfz6_10
              try clear hfz6_11
              try clear hfz6_2
              try clear hfz6_3
              try clear hfz6_4
              try clear hfz6_5
              try clear hfz6_6
              try clear hfz6_7
              try clear hfz6_8
              try clear hfz6_9
              try clear p2
              try clear p6
              obtain ⟨kq, x6_34, x7_34, rfl, HA, HJ34, HO_6, HO_433007, HO_433009, HO_433010, BK432, HB⟩ := hcut
              cases kq with
              | zero => exact absurd HA.out (by simp [crossbarref07_Of.j2])
              | succ kj34 =>
                have H := HA.out
                clear HA
                simp only [crossbarref07_Of.j2] at H
                by_cases c42 : t430 > 1
                · rw [if_pos c42] at H
                  have c42b0 : decide (1 < t430) = true := decide_eq_true c42
                  clear c42
                  by_cases c43 : x6_34.length < 5864062014805
                  · rw [if_pos c43] at H
                    have LMc43 := Aside0.mk c43
                    clear c43
                    obtain ⟨y451, hy451⟩ : ∃ y_ : List (S32), y_ = (x6_34 ++ [(⟨11, x7_34, wrap64 (t430 - 1)⟩ : S32)]) := ⟨_, rfl⟩
                    replace H : (if t430 > 0 then (if y451.length < 5864062014805 then (some ((y451 ++ [(⟨12, wrap64 ((l0.length : Int) - 1), 1⟩ : S32)]), 0)) else (none)) else (some (y451, 0))) = some (r1, r2) := by first | (rw [hy451]; with_reducible exact H) | (have H2_ := (Option.bind_some _ _).symm.trans H; rw [hy451]; with_reducible exact H2_) | (have H2_ := (Option.bind_some _ _).symm.trans H; with_reducible exact H2_) | with_reducible exact H | (rw [hy451]; exact H) | exact H
                    have Ny451 := Aside0.mk hy451
                    clear hy451
                    by_cases c44 : t430 > 0
                    · rw [if_pos c44] at H
                      have c44b0 : decide (0 < t430) = true := decide_eq_true c44
                      clear c44
                      by_cases c45 : y451.length < 5864062014805
                      · rw [if_pos c45] at H
                        have LMc45 := Aside0.mk c45
                        clear c45
                        obtain ⟨y454, hy454⟩ : ∃ y_ : List (S32), y_ = (y451 ++ [(⟨12, wrap64 ((l0.length : Int) - 1), 1⟩ : S32)]) := ⟨_, rfl⟩
                        replace H : (some (y454, 0)) = some (r1, r2) := by first | (rw [hy454]; with_reducible exact H) | (have H2_ := (Option.bind_some _ _).symm.trans H; rw [hy454]; with_reducible exact H2_) | (have H2_ := (Option.bind_some _ _).symm.trans H; with_reducible exact H2_) | with_reducible exact H | (rw [hy454]; exact H) | exact H
                        have Ny454 := Aside0.mk hy454
                        clear hy454
                        simp only [Option.some.injEq, Prod.mk.injEq] at H
                        obtain ⟨rfl, rfl⟩ := H
                        obtain ⟨hcz46_0, hcz46_1, hcz46_2, hcz46_3, hcz46_4, hcz46_5, hcz46_6, hcz46_7, hcz46_8, hcz46_9, hcz46_10, hcz46_11, hfz46_0, hfz46_1, hfz46_2, hfz46_3, hfz46_4, hfz46_5, hfz46_6, hfz46_7, hfz46_8, hfz46_9, hfz46_10, hfz46_11⟩ := bc12 BK432.out
                        go_wp2_with (first | ((with_reducible refine gate_builtin (b := .append) (xs := #[.tmp 88, .tmp 94]) rfl ?_); at_builtin; refine Kd.R_append k32 (w0 := w) w.heap.size rfl (.tmp 88) (.tmp 94) 23 32 (.agg #[(.int .i64 0), (.int .i64 0), (.int .i64 0)]) 24 rfl Try.underlying23 info32 rfl (by decide) (by omega) u6 x6_34 (⟨11, x7_34, wrap64 (t430 - 1)⟩ : S32) [.int .i64 11, .int .i64 x7_34, .int .i64 (wrap64 (t430 - 1))] (fun _ => True) (fun _ => False) rfl rfl ?aP (fun _ hk => hk.elim) ?aF ?aO ?aB ?aS ?aL ?_; (case aP => exact k32_mkM _ _ _ (⟨11, x7_34, wrap64 (t430 - 1)⟩ : S32)); (case aB => exact (pB HB)); (case aF => exact (fun _ _ => trivial)); (case aO => exact (pR HO_6)); (case aS => exact (below_size (pB HB))); (case aL => have := LMc43.out; omega); intro v452 w47 ho hb hg hat; rw [← Ny451.out] at ho; replace HO_433007 := Aside0.mk (Kd.R_over' (pR HO_433007) (Kd.R_typed (pR HO_6)) (by decide) hg); replace HO_433009 := Aside0.mk (Kd.R_over' (pR HO_433009) (Kd.R_typed (pR HO_6)) (by decide) hg); replace HO_433010 := Aside0.mk (Kd.R_over' (pR HO_433010) (Kd.R_typed (pR HO_6)) (by decide) hg); replace BK432 := Aside0.mk (blk_grown (g := gb432) (o := .cells #[.bool t413, .bool t414, .bool t415, .int .i64 t416, .int .u16 t417, .int .u32 t418, .int .u32 t419, .slice Ao7 t420.length co7, .int .u16 t423, .slice Ao8 t424.length co8, .slice Ao9 t427.length co9, .int .i64 t430] 45 (0, 0)) (pk BK432) hg (Kd.R_ne HO_6.out BK432.out (by decide))); replace HB := Aside0.mk (hb); have HO453 := Aside0.mk (ho); clear HO_6; clear ho hb hg hat; obtain ⟨hcz48_0, hcz48_1, hcz48_2, hcz48_3, hcz48_4, hcz48_5, hcz48_6, hcz48_7, hcz48_8, hcz48_9, hcz48_10, hcz48_11, hfz48_0, hfz48_1, hfz48_2, hfz48_3, hfz48_4, hfz48_5, hfz48_6, hfz48_7, hfz48_8, hfz48_9, hfz48_10, hfz48_11⟩ := bc12 BK432.out) | ((with_reducible refine gate_builtin (b := .append) (xs := #[.tmp 99, .tmp 104]) rfl ?_); at_builtin; refine Kd.R_append k32 (w0 := w) w.heap.size rfl (.tmp 99) (.tmp 104) 23 32 (.agg #[(.int .i64 0), (.int .i64 0), (.int .i64 0)]) 24 rfl Try.underlying23 info32 rfl (by decide) (by omega) v452 y451 (⟨12, wrap64 ((l0.length : Int) - 1), 1⟩ : S32) [.int .i64 12, .int .i64 (wrap64 ((l0.length : Int) - 1)), .int .i64 1] (fun _ => True) (fun _ => False) rfl rfl ?aP (fun _ hk => hk.elim) ?aF ?aO ?aB ?aS ?aL ?_; (case aP => exact k32_mkM _ _ _ (⟨12, wrap64 ((l0.length : Int) - 1), 1⟩ : S32)); (case aB => exact (pB HB)); (case aF => exact (fun _ _ => trivial)); (case aO => exact (pR HO453)); (case aS => exact (below_size (pB HB))); (case aL => have := LMc45.out; omega); intro v455 w49 ho hb hg hat; rw [← Ny454.out] at ho; replace HO_433007 := Aside0.mk (Kd.R_over' (pR HO_433007) (Kd.R_typed (pR HO453)) (by decide) hg); replace HO_433009 := Aside0.mk (Kd.R_over' (pR HO_433009) (Kd.R_typed (pR HO453)) (by decide) hg); replace HO_433010 := Aside0.mk (Kd.R_over' (pR HO_433010) (Kd.R_typed (pR HO453)) (by decide) hg); replace BK432 := Aside0.mk (blk_grown (g := gb432) (o := .cells #[.bool t413, .bool t414, .bool t415, .int .i64 t416, .int .u16 t417, .int .u32 t418, .int .u32 t419, .slice Ao7 t420.length co7, .int .u16 t423, .slice Ao8 t424.length co8, .slice Ao9 t427.length co9, .int .i64 t430] 45 (0, 0)) (pk BK432) hg (Kd.R_ne HO453.out BK432.out (by decide))); replace HB := Aside0.mk (hb); have HO456 := Aside0.mk (ho); clear HO453; clear ho hb hg hat))
                        go_ret2
                        exact ⟨_, by first | rfl | (simp [errW_none, errW_some] <;> rfl) | (simp [*, errW_none, errW_some] <;> rfl), by (with_reducible repeat (first | apply Kd.R_alloc | apply Kd.R_drewN | apply Kd.R_drew)); exact HO456.out, by repeat (first | (with_reducible first | exact HB.out | apply below_alloc | apply pw_below_drewN | apply below_drew1 | refine below_set ?_ GE432.out) | exact HB.out)⟩
                      rw [if_neg c45] at H
                      exact absurd H (by simp)
                    rw [if_neg c44] at H
                    have c44b0 : decide (0 < t430) = false := decide_eq_false c44
                    clear c44
                    simp only [Option.some.injEq, Prod.mk.injEq] at H
                    obtain ⟨rfl, rfl⟩ := H
                    obtain ⟨hcz50_0, hcz50_1, hcz50_2, hcz50_3, hcz50_4, hcz50_5, hcz50_6, hcz50_7, hcz50_8, hcz50_9, hcz50_10, hcz50_11, hfz50_0, hfz50_1, hfz50_2, hfz50_3, hfz50_4, hfz50_5, hfz50_6, hfz50_7, hfz50_8, hfz50_9, hfz50_10, hfz50_11⟩ := bc12 BK432.out
                    go_wp2_with (first | ((with_reducible refine gate_builtin (b := .append) (xs := #[.tmp 88, .tmp 94]) rfl ?_); at_builtin; refine Kd.R_append k32 (w0 := w) w.heap.size rfl (.tmp 88) (.tmp 94) 23 32 (.agg #[(.int .i64 0), (.int .i64 0), (.int .i64 0)]) 24 rfl Try.underlying23 info32 rfl (by decide) (by omega) u6 x6_34 (⟨11, x7_34, wrap64 (t430 - 1)⟩ : S32) [.int .i64 11, .int .i64 x7_34, .int .i64 (wrap64 (t430 - 1))] (fun _ => True) (fun _ => False) rfl rfl ?aP (fun _ hk => hk.elim) ?aF ?aO ?aB ?aS ?aL ?_; (case aP => exact k32_mkM _ _ _ (⟨11, x7_34, wrap64 (t430 - 1)⟩ : S32)); (case aB => exact (pB HB)); (case aF => exact (fun _ _ => trivial)); (case aO => exact (pR HO_6)); (case aS => exact (below_size (pB HB))); (case aL => have := LMc43.out; omega); intro v452 w51 ho hb hg hat; rw [← Ny451.out] at ho; replace HO_433007 := Aside0.mk (Kd.R_over' (pR HO_433007) (Kd.R_typed (pR HO_6)) (by decide) hg); replace HO_433009 := Aside0.mk (Kd.R_over' (pR HO_433009) (Kd.R_typed (pR HO_6)) (by decide) hg); replace HO_433010 := Aside0.mk (Kd.R_over' (pR HO_433010) (Kd.R_typed (pR HO_6)) (by decide) hg); replace BK432 := Aside0.mk (blk_grown (g := gb432) (o := .cells #[.bool t413, .bool t414, .bool t415, .int .i64 t416, .int .u16 t417, .int .u32 t418, .int .u32 t419, .slice Ao7 t420.length co7, .int .u16 t423, .slice Ao8 t424.length co8, .slice Ao9 t427.length co9, .int .i64 t430] 45 (0, 0)) (pk BK432) hg (Kd.R_ne HO_6.out BK432.out (by decide))); replace HB := Aside0.mk (hb); have HO453 := Aside0.mk (ho); clear HO_6; clear ho hb hg hat; obtain ⟨hcz52_0, hcz52_1, hcz52_2, hcz52_3, hcz52_4, hcz52_5, hcz52_6, hcz52_7, hcz52_8, hcz52_9, hcz52_10, hcz52_11, hfz52_0, hfz52_1, hfz52_2, hfz52_3, hfz52_4, hfz52_5, hfz52_6, hfz52_7, hfz52_8, hfz52_9, hfz52_10, hfz52_11⟩ := bc12 BK432.out))
                    go_ret2
                    exact ⟨_, by first | rfl | (simp [errW_none, errW_some] <;> rfl) | (simp [*, errW_none, errW_some] <;> rfl), by (with_reducible repeat (first | apply Kd.R_alloc | apply Kd.R_drewN | apply Kd.R_drew)); exact HO453.out, by repeat (first | (with_reducible first | exact HB.out | apply below_alloc | apply pw_below_drewN | apply below_drew1 | refine below_set ?_ GE432.out) | exact HB.out)⟩
                  rw [if_neg c43] at H
                  exact absurd H (by simp)
                rw [if_neg c42] at H
                have c42b0 : decide (1 < t430) = false := decide_eq_false c42
                clear c42
                by_cases c53 : t430 > 0
                · rw [if_pos c53] at H
                  have c53b0 : decide (0 < t430) = true := decide_eq_true c53
                  clear c53
                  by_cases c54 : x6_34.length < 5864062014805
                  · rw [if_pos c54] at H
                    have LMc54 := Aside0.mk c54
                    clear c54
                    obtain ⟨y457, hy457⟩ : ∃ y_ : List (S32), y_ = (x6_34 ++ [(⟨12, wrap64 ((l0.length : Int) - 1), 1⟩ : S32)]) := ⟨_, rfl⟩
                    replace H : (some (y457, 0)) = some (r1, r2) := by first | (rw [hy457]; with_reducible exact H) | (have H2_ := (Option.bind_some _ _).symm.trans H; rw [hy457]; with_reducible exact H2_) | (have H2_ := (Option.bind_some _ _).symm.trans H; with_reducible exact H2_) | with_reducible exact H | (rw [hy457]; exact H) | exact H
                    have Ny457 := Aside0.mk hy457
                    clear hy457
                    simp only [Option.some.injEq, Prod.mk.injEq] at H
                    obtain ⟨rfl, rfl⟩ := H
                    obtain ⟨hcz55_0, hcz55_1, hcz55_2, hcz55_3, hcz55_4, hcz55_5, hcz55_6, hcz55_7, hcz55_8, hcz55_9, hcz55_10, hcz55_11, hfz55_0, hfz55_1, hfz55_2, hfz55_3, hfz55_4, hfz55_5, hfz55_6, hfz55_7, hfz55_8, hfz55_9, hfz55_10, hfz55_11⟩ := bc12 BK432.out
                    go_wp2_with (first | ((with_reducible refine gate_builtin (b := .append) (xs := #[.tmp 99, .tmp 104]) rfl ?_); at_builtin; refine Kd.R_append k32 (w0 := w) w.heap.size rfl (.tmp 99) (.tmp 104) 23 32 (.agg #[(.int .i64 0), (.int .i64 0), (.int .i64 0)]) 24 rfl Try.underlying23 info32 rfl (by decide) (by omega) u6 x6_34 (⟨12, wrap64 ((l0.length : Int) - 1), 1⟩ : S32) [.int .i64 12, .int .i64 (wrap64 ((l0.length : Int) - 1)), .int .i64 1] (fun _ => True) (fun _ => False) rfl rfl ?aP (fun _ hk => hk.elim) ?aF ?aO ?aB ?aS ?aL ?_; (case aP => exact k32_mkM _ _ _ (⟨12, wrap64 ((l0.length : Int) - 1), 1⟩ : S32)); (case aB => exact (pB HB)); (case aF => exact (fun _ _ => trivial)); (case aO => exact (pR HO_6)); (case aS => exact (below_size (pB HB))); (case aL => have := LMc54.out; omega); intro v458 w56 ho hb hg hat; rw [← Ny457.out] at ho; replace HO_433007 := Aside0.mk (Kd.R_over' (pR HO_433007) (Kd.R_typed (pR HO_6)) (by decide) hg); replace HO_433009 := Aside0.mk (Kd.R_over' (pR HO_433009) (Kd.R_typed (pR HO_6)) (by decide) hg); replace HO_433010 := Aside0.mk (Kd.R_over' (pR HO_433010) (Kd.R_typed (pR HO_6)) (by decide) hg); replace BK432 := Aside0.mk (blk_grown (g := gb432) (o := .cells #[.bool t413, .bool t414, .bool t415, .int .i64 t416, .int .u16 t417, .int .u32 t418, .int .u32 t419, .slice Ao7 t420.length co7, .int .u16 t423, .slice Ao8 t424.length co8, .slice Ao9 t427.length co9, .int .i64 t430] 45 (0, 0)) (pk BK432) hg (Kd.R_ne HO_6.out BK432.out (by decide))); replace HB := Aside0.mk (hb); have HO459 := Aside0.mk (ho); clear HO_6; clear ho hb hg hat))
                    go_ret2
                    exact ⟨_, by first | rfl | (simp [errW_none, errW_some] <;> rfl) | (simp [*, errW_none, errW_some] <;> rfl), by (with_reducible repeat (first | apply Kd.R_alloc | apply Kd.R_drewN | apply Kd.R_drew)); exact HO459.out, by repeat (first | (with_reducible first | exact HB.out | apply below_alloc | apply pw_below_drewN | apply below_drew1 | refine below_set ?_ GE432.out) | exact HB.out)⟩
                  rw [if_neg c54] at H
                  exact absurd H (by simp)
                rw [if_neg c53] at H
                have c53b0 : decide (0 < t430) = false := decide_eq_false c53
                clear c53
                simp only [Option.some.injEq, Prod.mk.injEq] at H
                obtain ⟨rfl, rfl⟩ := H
                obtain ⟨hcz57_0, hcz57_1, hcz57_2, hcz57_3, hcz57_4, hcz57_5, hcz57_6, hcz57_7, hcz57_8, hcz57_9, hcz57_10, hcz57_11, hfz57_0, hfz57_1, hfz57_2, hfz57_3, hfz57_4, hfz57_5, hfz57_6, hfz57_7, hfz57_8, hfz57_9, hfz57_10, hfz57_11⟩ := bc12 BK432.out
                go_wp2
                go_ret2
                exact ⟨_, by first | rfl | (simp [errW_none, errW_some] <;> rfl) | (simp [*, errW_none, errW_some] <;> rfl), by (with_reducible repeat (first | apply Kd.R_alloc | apply Kd.R_drewN | apply Kd.R_drew)); exact HO_6.out, by repeat (first | (with_reducible first | exact HB.out | apply below_alloc | apply pw_below_drewN | apply below_drew1 | refine below_set ?_ GE432.out) | exact HB.out)⟩
  rw [if_neg c3] at H
  have c3b0 : (t431 == 0) = false := beq_eq_false_iff_ne.mpr c3
  have c3b1 : (t431 != 0) = true := bne_iff_ne.mpr c3
  simp only [Option.some.injEq, Prod.mk.injEq] at H
  obtain ⟨rfl, rfl⟩ := H
  go_enter Try.func11, Try.ntmps11
  go_wp2_with (first | ((with_reducible refine gate_callee (f := 26) rfl ?_); refine goesL_ (some 11) rfl rfl Try.func26 (by kernel_rfl) rfl #[.slice A0 l0.length c0] rfl (by (try simp only [List.map_toArray, List.map_cons, List.map_nil]); first | done | rfl | (simp only [List.length_drop, List.length_take]; rfl)) ?_; (with_reducible refine (crossbarref06_Read.calls k _ _ l0 t413 t414 t415 t416 t417 t418 t419 t420 t423 t424 t427 t430 t431 _ ?side1 ?side2 A2.out).mono ?_); (case side1 => repeat (first | exact HR0.out | (with_reducible refine Kd.C_alloc ?_ _) | (with_reducible refine Kd.C_drewN ?_ _) | (with_reducible refine Kd.C_drew ?_))); (case side2 => exact HC0.out); rintro e w58 ⟨v421, v425, v428, rfl, ho0, ho1, ho2, hb⟩; refine ⟨_, rfl, ?_⟩; have HO422 := Aside0.mk (Kd.R_lower ho0 (below_size (pB HB))); have HO426 := Aside0.mk (Kd.R_lower ho1 (below_size (pB HB))); have HO429 := Aside0.mk (Kd.R_lower ho2 (below_size (pB HB))); replace HB := bstE HB hb; (try clear hb); (try clear hb2); (try clear hk); (try clear hi); (try clear ho0); (try clear ho1); (try clear ho2)) | ((with_reducible refine gate_dst (N := 4) rfl ?_); refine box_event ?hg (N := 4) ?hd (cs := #[.bool false, .bool false, .bool false, .int .i64 0, .int .u16 0, .int .u32 0, .int .u32 0, .slice none 0 0, .int .u16 0, .slice none 0 0, .slice none 0 0, .int .i64 0]) (t := 45) ?hr ?_; (case hd => rfl); (case hg => rfl); (case hr => first | (go_simp; done) | (go_simp; rfl)); intro gb432 hg w59 hbox hb; replace HO422 := rbE HO422 hb; replace HO426 := rbE HO426 hb; replace HO429 := rbE HO429 hb; have n3_ := bstE HB hb; have BK432 := Aside0.mk (hbox); have GW432 := geE hg HB; have GE432 := geE hg HB; clear HB; have HB := n3_; clear n3_; clear hb hbox hg; obtain ⟨hcz60_0, hcz60_1, hcz60_2, hcz60_3, hcz60_4, hcz60_5, hcz60_6, hcz60_7, hcz60_8, hcz60_9, hcz60_10, hcz60_11, hfz60_0, hfz60_1, hfz60_2, hfz60_3, hfz60_4, hfz60_5, hfz60_6, hfz60_7, hfz60_8, hfz60_9, hfz60_10, hfz60_11⟩ := bc12 BK432.out; obtain ⟨Ao61, co61, eo61⟩ := Kd.R_slice HO422.out; subst eo61; obtain ⟨Ao62, co62, eo62⟩ := Kd.R_slice HO426.out; subst eo62; obtain ⟨Ao63, co63, eo63⟩ := Kd.R_slice HO429.out; subst eo63) | ((with_reducible refine gate_store (t := 45) (p := 4) rfl ?_); refine store_event (t := 45) (p := 4) (v := ?vo_w64) (w1 := ((((((((((((w59.setCell ⟨gb432, 0, none⟩ (.bool t413)).setCell ⟨gb432, 1, none⟩ (.bool t414)).setCell ⟨gb432, 2, none⟩ (.bool t415)).setCell ⟨gb432, 3, none⟩ (.int .i64 t416)).setCell ⟨gb432, 4, none⟩ (.int .u16 t417)).setCell ⟨gb432, 5, none⟩ (.int .u32 t418)).setCell ⟨gb432, 6, none⟩ (.int .u32 t419)).setCell ⟨gb432, 7, none⟩ (.slice Ao61 t420.length co61)).setCell ⟨gb432, 8, none⟩ (.int .u16 t423)).setCell ⟨gb432, 9, none⟩ (.slice Ao62 t424.length co62)).setCell ⟨gb432, 10, none⟩ (.slice Ao63 t427.length co63)).setCell ⟨gb432, 11, none⟩ (.int .i64 t430))) ?hg ?ho ?hn ?hr ?_; (case ho => rfl); (case hg => rfl); (case hn => rfl); (case hr => first | (go_simp; done) | (go_simp; rfl)); intro w64 hw; replace HO422 := rfE hw HO422 BK432; replace HO426 := rfE hw HO426 BK432; replace HO429 := rfE hw HO429 BK432; replace BK432 : Aside0 (w64.heap[gb432]? = some (.cells #[.bool t413, .bool t414, .bool t415, .int .i64 t416, .int .u16 t417, .int .u32 t418, .int .u32 t419, .slice Ao61 t420.length co61, .int .u16 t423, .slice Ao62 t424.length co62, .slice Ao63 t427.length co63, .int .i64 t430] 45 (0, 0))) := ⟨by rw [hw]; apply puts12; exact BK432.out⟩; replace HB := bsE hw HB GE432; clear hw))
  go_ret2
  exact ⟨_, by first | rfl | (simp [errW_none, errW_some] <;> rfl) | (simp [*, errW_none, errW_some] <;> rfl), by first | exact Kd.R_nil _ _ _ _ _ | exact Kd.N_nil _ _ _ _ _ | exact Kd.V_nil _ _ _ _ _ | exact Kd.Q_nil _ _ _ _ _ | exact Kd.S_nil _ _ _ _ _, by repeat (first | (with_reducible first | exact HB.out | apply below_alloc | apply pw_below_drewN | apply below_drew1 | refine below_set ?_ GE432.out) | exact HB.out)⟩
end Go.Proofs.Ytcbdgknfkoodoaa.F
namespace Go.Proofs.Ytcbdgknfkoodoaa.F
open Go.RowKit Go.Proofs.YtcbdgknfkoodoaaW.PrintWords Go.Proofs.YtcbdgknfkoodoaaW.PrintLast Go.Proofs.YtcbdgknfkoodoaaW.PrintMore
attribute [local go_sem] max2_int min2_int max_two min_two max_three min_three max_four min_four   
set_option linter.unusedVariables false
set_option linter.unusedSimpArgs false
attribute [local go_sem high] eqA32
def crossbarref07_Same.l0 : Nat → List (S32) → List (S32) → Int → Option (Bool)
  | 0, _, _, _ => none
  | k + 1, x0, x1, x5 => if x5 < (x0.length : Int) then (if 0 ≤ x5 then (if x5 < (x1.length : Int) then (if (!(((rd_T32 x0 x5).f0) == ((rd_T32 x1 x5).f0)) || (!(((rd_T32 x0 x5).f1) == ((rd_T32 x1 x5).f1)) || (!(((rd_T32 x0 x5).f2) == ((rd_T32 x1 x5).f2))))) = true then (some false) else (crossbarref07_Same.l0 k x0 x1 (wrap64 (x5 + 1)))) else (none)) else (none)) else (some true)
def crossbarref07_Same.f (k : Nat) (l0 : List (S32)) (l1 : List (S32)) : Option (Bool) := if (l0.length : Int) = (l1.length : Int) then (crossbarref07_Same.l0 k l0 l1 0) else (some false)
theorem crossbarref07_Same.mono_l : ∀ k, (∀ y0 y1 y2, LeO (crossbarref07_Same.l0 k y0 y1 y2) (crossbarref07_Same.l0 (k + 1) y0 y1 y2))
  | 0 => fun _ _ _ r h => by simp [crossbarref07_Same.l0] at h
  | k + 1 => by
    have ih0 := crossbarref07_Same.mono_l k
    intro y0 y1 y2
    unfold crossbarref07_Same.l0
    repeat' first
    | (with_reducible exact ih0 _ _ _)
    | (with_reducible exact LeO.refl _)
    | (with_reducible exact LeO.none _)
    | (with_reducible refine LeO.ite ?_ ?_)
    | (with_reducible refine LeO.bind ?_ (fun _ => ?_))
    | exact ih0 _ _ _
    | exact LeO.none _
    | refine LeO.ite ?_ ?_
    | refine LeO.bind ?_ (fun _ => ?_)
theorem crossbarref07_Same.mono : ∀ a0 a1 k, LeO (crossbarref07_Same.f k a0 a1) (crossbarref07_Same.f (k + 1) a0 a1) := by
  intro a0 a1 k
  have ih0 := crossbarref07_Same.mono_l k
  unfold crossbarref07_Same.f
  repeat' first
      | (with_reducible exact ih0 _ _ _)
      | (with_reducible exact LeO.refl _)
      | (with_reducible exact LeO.none _)
      | (with_reducible refine LeO.ite ?_ ?_)
      | (with_reducible refine LeO.bind ?_ (fun _ => ?_))
      | exact ih0 _ _ _
      | exact LeO.none _
      | refine LeO.ite ?_ ?_
      | refine LeO.bind ?_ (fun _ => ?_)
set_option maxHeartbeats 8000000 in
set_option maxRecDepth 100000 in
theorem crossbarref07_Same.calls (k : Nat) (A0 : Option Addr) (c0 : Nat) (l0 : List (S32)) (A1 : Option Addr) (c1 : Nat) (l1 : List (S32)) (r : Bool) (w : World) (hr0 : Kd.C k32 w A0 l0.length l0) (hc0 : l0.length ≤ c0) (hr1 : Kd.C k32 w A1 l1.length l1) (hc1 : l1.length ≤ c1) (h : crossbarref07_Same.f k l0 l1 = some r) :
    Calls Try.prog 12 #[.slice A0 l0.length c0, .slice A1 l1.length c1] w fun e w' => e = .returned (.bool r) ∧ Drawn0 w w' := by
  have hu32 := Try.underlying32
  have HR0 := Aside0.mk hr0
  have HC0 := Aside0.mk hc0
  clear hr0 hc0
  have HR1 := Aside0.mk hr1
  have HC1 := Aside0.mk hc1
  clear hr1 hc1
  have H : (if (l0.length : Int) = (l1.length : Int) then (crossbarref07_Same.l0 k l0 l1 0) else (some false)) = some r := h
  clear h
  by_cases c3 : (l0.length : Int) = (l1.length : Int)
  · rw [if_pos c3] at H
    have c3b0 : ((l0.length : Int) == (l1.length : Int)) = true := beq_iff_eq.mpr c3
    have c3b1 : ((l0.length : Int) != (l1.length : Int)) = false := bne_eq_false_iff_eq.mpr c3
    have c3b2 : (l0.length == l1.length) = true := by first | simpa using c3 | (simp at c3 ⊢; omega)
    clear c3
    have H' := Aside0.mk H
    clear H
    go_enter Try.func12, Try.ntmps12
    go_wp2
    repeat (go_quiet (fail); try go_wp2)
    go_loopg [5] k (fun kq v5 w' => ∃ (x5_1 : Int), v5 = .int .i64 x5_1 ∧ Aside0 (crossbarref07_Same.l0 kq l0 l1 x5_1 = some r) ∧ Aside0 (kq ≤ k) ∧ Drawn0 w w')
    case atStart => exact ⟨(0), (by first | rfl | (simp; done) | (simp [*]; done)), H', ⟨Nat.le_refl _⟩, by repeat (first | exact Drawn0.refl _ | apply Drawn0.step)⟩
    case round =>
      clear H'
      try clear c1
      try clear p2
      try clear c3
      try clear c3b0
      try clear c3b1
      try clear c3b2
      obtain ⟨x5_1, rfl, HA, HK1, ⟨m1, rfl⟩⟩ := hrel
      cases gk with
      | zero => exact absurd HA.out (by simp [crossbarref07_Same.l0])
      | succ k1 =>
        have H := HA.out
        clear HA
        simp only [crossbarref07_Same.l0] at H
        by_cases c4 : x5_1 < (l0.length : Int)
        · rw [if_pos c4] at H
          have c4b0 : decide (x5_1 < (l0.length : Int)) = true := decide_eq_true c4
          clear c4
          by_cases c5 : 0 ≤ x5_1
          · rw [if_pos c5] at H
            have c5b0 : decide (0 ≤ x5_1) = true := decide_eq_true c5
            clear c5
            by_cases c6 : x5_1 < (l1.length : Int)
            · rw [if_pos c6] at H
              have c6b0 : decide (x5_1 < (l1.length : Int)) = true := decide_eq_true c6
              clear c6
              by_cases c7 : (!(((rd_T32 l0 x5_1).f0) == ((rd_T32 l1 x5_1).f0)) || (!(((rd_T32 l0 x5_1).f1) == ((rd_T32 l1 x5_1).f1)) || (!(((rd_T32 l0 x5_1).f2) == ((rd_T32 l1 x5_1).f2))))) = true
              · rw [if_pos c7] at H
                have c7b0 : (!(((rd_T32 l0 x5_1).f0) == ((rd_T32 l1 x5_1).f0)) || (!(((rd_T32 l0 x5_1).f1) == ((rd_T32 l1 x5_1).f1)) || (!(((rd_T32 l0 x5_1).f2) == ((rd_T32 l1 x5_1).f2))))) = true := c7
                clear c7
                obtain rfl := Option.some.inj H
                have p460 : 0 ≤ (x5_1 : Int) := of_decide_eq_true (by first | (with_reducible assumption) | assumption)
                have q460 : x5_1 < (l0.length : Int) := of_decide_eq_true (by first | (with_reducible assumption) | assumption)
                obtain ⟨ad460, e460, hx460_0, hx460_1, hx460_2⟩ := at_T32 HR0.out x5_1 p460 q460
                cases e460
                replace p460 := eq_true p460
                replace q460 := eq_true q460
                have p461 : 0 ≤ (x5_1 : Int) := of_decide_eq_true (by first | (with_reducible assumption) | assumption)
                have q461 : x5_1 < (l1.length : Int) := of_decide_eq_true (by first | (with_reducible assumption) | assumption)
                obtain ⟨ad461, e461, hx461_0, hx461_1, hx461_2⟩ := at_T32 HR1.out x5_1 p461 q461
                cases e461
                replace p461 := eq_true p461
                replace q461 := eq_true q461
                go_wp2
                repeat (go_quiet (fail); try go_wp2)
                go_ret
                exact ⟨by first | rfl | (simp; done) | (simp [*]; done), by repeat (first | exact Drawn0.refl _ | apply Drawn0.step)⟩
              rw [if_neg c7] at H
              have c7b0 : (!(((rd_T32 l0 x5_1).f0) == ((rd_T32 l1 x5_1).f0)) || (!(((rd_T32 l0 x5_1).f1) == ((rd_T32 l1 x5_1).f1)) || (!(((rd_T32 l0 x5_1).f2) == ((rd_T32 l1 x5_1).f2))))) = false := by simpa using c7
              clear c7
              have H' := Aside0.mk H
              clear H
              have p460 : 0 ≤ (x5_1 : Int) := of_decide_eq_true (by first | (with_reducible assumption) | assumption)
              have q460 : x5_1 < (l0.length : Int) := of_decide_eq_true (by first | (with_reducible assumption) | assumption)
              obtain ⟨ad460, e460, hx460_0, hx460_1, hx460_2⟩ := at_T32 HR0.out x5_1 p460 q460
              cases e460
              replace p460 := eq_true p460
              replace q460 := eq_true q460
              have p461 : 0 ≤ (x5_1 : Int) := of_decide_eq_true (by first | (with_reducible assumption) | assumption)
              have q461 : x5_1 < (l1.length : Int) := of_decide_eq_true (by first | (with_reducible assumption) | assumption)
              obtain ⟨ad461, e461, hx461_0, hx461_1, hx461_2⟩ := at_T32 HR1.out x5_1 p461 q461
              cases e461
              replace p461 := eq_true p461
              replace q461 := eq_true q461
              go_wp2
              repeat (go_quiet (fail); try go_wp2)
              go_roundg k1
              case measure => have := HK1.out; omega
              case rel => exact ⟨(wrap64 (x5_1 + 1)), (by first | rfl | (simp; done) | (simp [*]; done)), H', ⟨by have := HK1.out; omega⟩, by repeat (first | exact Drawn0.refl _ | apply Drawn0.step)⟩
            rw [if_neg c6] at H
            exact absurd H (by simp)
          rw [if_neg c5] at H
          exact absurd H (by simp)
        rw [if_neg c4] at H
        have c4b0 : decide (x5_1 < (l0.length : Int)) = false := decide_eq_false c4
        clear c4
        obtain rfl := Option.some.inj H
        go_wp2
        repeat (go_quiet (fail); try go_wp2)
        go_ret
        exact ⟨by first | rfl | (simp; done) | (simp [*]; done), by repeat (first | exact Drawn0.refl _ | apply Drawn0.step)⟩
  rw [if_neg c3] at H
  have c3b0 : ((l0.length : Int) == (l1.length : Int)) = false := beq_eq_false_iff_ne.mpr c3
  have c3b1 : ((l0.length : Int) != (l1.length : Int)) = true := bne_iff_ne.mpr c3
  have c3b2 : (l0.length == l1.length) = false := by first | simpa using c3 | (simp at c3 ⊢; omega)
  obtain rfl := Option.some.inj H
  go_enter Try.func12, Try.ntmps12
  go_wp2
  repeat (go_quiet (fail); try go_wp2)
  go_ret
  exact ⟨by first | rfl | (simp; done) | (simp [*]; done), by repeat (first | exact Drawn0.refl _ | apply Drawn0.step)⟩
end Go.Proofs.Ytcbdgknfkoodoaa.F
namespace Go.Proofs.Ytcbdgknfkoodoaa.F
open Go.RowKit Go.Proofs.YtcbdgknfkoodoaaW.PrintWords Go.Proofs.YtcbdgknfkoodoaaW.PrintLast Go.Proofs.YtcbdgknfkoodoaaW.PrintMore
attribute [local go_sem] max2_int min2_int max_two min_two max_three min_three max_four min_four   
set_option linter.unusedVariables false
set_option linter.unusedSimpArgs false
def crossbarref07_Find.l0 : Nat → List (S32) → Int → Int → List (S32) → Int → Option (Int × Int × Int × Int)
  | 0, _, _, _, _, _ => none
  | k + 1, x0, x1, x2, x8, x9 => if x9 < (x0.length : Int) then (if 0 ≤ x9 then (if ((rd_T32 x0 x9).f0) = x1 then (if x8.length < 5864062014805 then (crossbarref07_Find.l0 k x0 x1 x2 (x8 ++ [(⟨(rd_T32 x0 x9).f0, (rd_T32 x0 x9).f1, (rd_T32 x0 x9).f2⟩ : S32)]) (wrap64 (x9 + 1))) else (none)) else (crossbarref07_Find.l0 k x0 x1 x2 x8 (wrap64 (x9 + 1)))) else (none)) else (if x2 < 0 then (some (0, 0, 0, 8)) else (if x2 ≥ (x8.length : Int) then (some (0, 0, 0, 8)) else (if 0 ≤ x2 then (if x2 < (x8.length : Int) then (some ((rd_T32 x8 x2).f0, (rd_T32 x8 x2).f1, (rd_T32 x8 x2).f2, 0)) else (none)) else (none))))
def crossbarref07_Find.f (k : Nat) (l0 : List (S32)) (a1 : Int) (a2 : Int) : Option (Int × Int × Int × Int) := crossbarref07_Find.l0 k l0 a1 a2 ([] : List (S32)) 0
theorem crossbarref07_Find.mono_l : ∀ k, (∀ y0 y1 y2 y3 y4, LeO (crossbarref07_Find.l0 k y0 y1 y2 y3 y4) (crossbarref07_Find.l0 (k + 1) y0 y1 y2 y3 y4))
  | 0 => fun _ _ _ _ _ r h => by simp [crossbarref07_Find.l0] at h
  | k + 1 => by
    have ih0 := crossbarref07_Find.mono_l k
    intro y0 y1 y2 y3 y4
    unfold crossbarref07_Find.l0
    repeat' first
    | (with_reducible exact ih0 _ _ _ _ _)
    | (with_reducible exact LeO.refl _)
    | (with_reducible exact LeO.none _)
    | (with_reducible refine LeO.ite ?_ ?_)
    | (with_reducible refine LeO.bind ?_ (fun _ => ?_))
    | exact ih0 _ _ _ _ _
    | exact LeO.none _
    | refine LeO.ite ?_ ?_
    | refine LeO.bind ?_ (fun _ => ?_)
theorem crossbarref07_Find.mono : ∀ a0 a1 a2 k, LeO (crossbarref07_Find.f k a0 a1 a2) (crossbarref07_Find.f (k + 1) a0 a1 a2) := by
  intro a0 a1 a2 k
  have ih0 := crossbarref07_Find.mono_l k
  unfold crossbarref07_Find.f
  repeat' first
      | (with_reducible exact ih0 _ _ _ _ _)
      | (with_reducible exact LeO.refl _)
      | (with_reducible exact LeO.none _)
      | (with_reducible refine LeO.ite ?_ ?_)
      | (with_reducible refine LeO.bind ?_ (fun _ => ?_))
      | exact ih0 _ _ _ _ _
      | exact LeO.none _
      | refine LeO.ite ?_ ?_
      | refine LeO.bind ?_ (fun _ => ?_)
set_option maxHeartbeats 8000000 in
set_option maxRecDepth 100000 in
theorem crossbarref07_Find.calls (k : Nat) (A0 : Option Addr) (c0 : Nat) (l0 : List (S32)) (a1 : Int) (a2 : Int) (r1 : Int) (r2 : Int) (r3 : Int) (r4 : Int) (w : World) (hr0 : Kd.C k32 w A0 l0.length l0) (hc0 : l0.length ≤ c0) (h : crossbarref07_Find.f k l0 a1 a2 = some (r1, r2, r3, r4)) :
    Calls Try.prog 14 #[.slice A0 l0.length c0, .int .i64 a1, .int .i64 a2] w fun e w' => e = .returned (.tuple #[.agg #[.int .i64 r1, .int .i64 r2, .int .i64 r3], .int .i64 r4]) ∧ Below w.heap.size w w' := by
  have hu32 := Try.underlying32
  have HR0 := Aside0.mk hr0
  have HC0 := Aside0.mk hc0
  clear hr0 hc0
  have HB := Aside0.mk (Below.refl w.heap.size w)
  have H : (crossbarref07_Find.l0 k l0 a1 a2 ([] : List (S32)) 0) = some (r1, r2, r3, r4) := h
  clear h
  have H' := Aside0.mk H
  clear H
  go_enter Try.func14, Try.ntmps14
  go_wp2_with (first | ((with_reducible refine gate_dst (N := 6) rfl ?_); (try (refine gate_guard (by rfl) ?_; dsimp only)); refine box_event ?hg (N := 6) ?hd (cs := #[.int .i64 0, .int .i64 0, .int .i64 0]) (t := 32) ?hr ?_; (case hd => rfl); (case hg => rfl); (case hr => first | (go_simp; done) | (go_simp; rfl)); intro gb462 hg w4 hbox hb; have n0_ := bstE HB hb; have BK462 := Aside0.mk (hbox); have GW462 := geE hg HB; have GE462 := geE hg HB; clear HB; have HB := n0_; clear n0_; clear hb hbox hg))
  go_loopg [8, 9] k (fun kq v8 v9 w' => ∃ (x8_1 : List (S32)) (x9_1 : Int), v9 = .int .i64 x9_1 ∧ Aside0 (crossbarref07_Find.l0 kq l0 a1 a2 x8_1 x9_1 = some (r1, r2, r3, r4)) ∧ Aside0 (kq ≤ k) ∧ Aside0 (Kd.R k32 32 w' w.heap.size (fun k_ => k_ ≠ gb462) v8 x8_1) ∧ Aside0 (w'.heap[gb462]? = some (.cells #[.int .i64 0, .int .i64 0, .int .i64 0] 32 (0, 0))) ∧ Aside0 (Below w.heap.size w w'))
  case atStart => exact ⟨(([] : List (S32))), (0), (by first | rfl | (simp; done) | (simp [*]; done)), H', ⟨Nat.le_refl _⟩, ⟨by first | exact Kd.R_nil _ _ _ _ _ | exact Kd.N_nil _ _ _ _ _ | exact Kd.V_nil _ _ _ _ _ | exact Kd.Q_nil _ _ _ _ _ | exact Kd.S_nil _ _ _ _ _⟩, ⟨by (with_reducible repeat (first | refine blk_drewN ?_ _ | refine blk_drew ?_ | refine blk_alloc ?_ _)); exact BK462.out⟩, ⟨by repeat (first | (with_reducible first | exact HB.out | apply below_alloc | apply pw_below_drewN | apply below_drew1 | refine below_set ?_ GE462.out) | exact HB.out)⟩⟩
  case round =>
    clear H'
    try clear c1
    try clear p2
    obtain ⟨x8_1, x9_1, rfl, HA, HK1, HO_8, BK462, HB⟩ := hrel
    cases gk with
    | zero => exact absurd HA.out (by simp [crossbarref07_Find.l0])
    | succ k1 =>
      have H := HA.out
      clear HA
      simp only [crossbarref07_Find.l0] at H
      by_cases c5 : x9_1 < (l0.length : Int)
      · rw [if_pos c5] at H
        have c5b0 : decide (x9_1 < (l0.length : Int)) = true := decide_eq_true c5
        clear c5
        by_cases c6 : 0 ≤ x9_1
        · rw [if_pos c6] at H
          have c6b0 : decide (0 ≤ x9_1) = true := decide_eq_true c6
          clear c6
          by_cases c7 : ((rd_T32 l0 x9_1).f0) = a1
          · rw [if_pos c7] at H
            have c7b0 : (((rd_T32 l0 x9_1).f0) == a1) = true := beq_iff_eq.mpr c7
            have c7b1 : (((rd_T32 l0 x9_1).f0) != a1) = false := bne_eq_false_iff_eq.mpr c7
            clear c7
            by_cases c8 : x8_1.length < 5864062014805
            · rw [if_pos c8] at H
              have LMc8 := Aside0.mk c8
              clear c8
              obtain ⟨y465, hy465⟩ : ∃ y_ : List (S32), y_ = (x8_1 ++ [(⟨(rd_T32 l0 x9_1).f0, (rd_T32 l0 x9_1).f1, (rd_T32 l0 x9_1).f2⟩ : S32)]) := ⟨_, rfl⟩
              replace H : (crossbarref07_Find.l0 k1 l0 a1 a2 y465 (wrap64 (x9_1 + 1))) = some (r1, r2, r3, r4) := by first | (rw [hy465]; with_reducible exact H) | (have H2_ := (Option.bind_some _ _).symm.trans H; rw [hy465]; with_reducible exact H2_) | (have H2_ := (Option.bind_some _ _).symm.trans H; with_reducible exact H2_) | with_reducible exact H | (rw [hy465]; exact H) | exact H
              have Ny465 := Aside0.mk hy465
              clear hy465
              have H' := Aside0.mk H
              clear H
              have p463 : 0 ≤ (x9_1 : Int) := of_decide_eq_true (by first | (with_reducible assumption) | assumption)
              have q463 : x9_1 < (l0.length : Int) := of_decide_eq_true (by first | (with_reducible assumption) | assumption)
              obtain ⟨ad463, e463, hx463_0, hx463_1, hx463_2⟩ := at_T32 HR0.out x9_1 p463 q463
              cases e463
              replace hx463_0 := (HB.out.cell (World.block_lt_of_cell? w _ hx463_0)).trans hx463_0
              replace hx463_1 := (HB.out.cell (World.block_lt_of_cell? w _ hx463_1)).trans hx463_1
              replace hx463_2 := (HB.out.cell (World.block_lt_of_cell? w _ hx463_2)).trans hx463_2
              replace p463 := eq_true p463
              replace q463 := eq_true q463
              have p464 : 0 ≤ (x9_1 : Int) := of_decide_eq_true (by first | (with_reducible assumption) | assumption)
              have q464 : x9_1 < (l0.length : Int) := of_decide_eq_true (by first | (with_reducible assumption) | assumption)
              obtain ⟨ad464, e464, hx464_0, hx464_1, hx464_2⟩ := at_T32 HR0.out x9_1 p464 q464
              obtain rfl : ad463 = ad464 := (by injection e464)
              replace hx464_0 := (HB.out.cell (World.block_lt_of_cell? w _ hx464_0)).trans hx464_0
              replace hx464_1 := (HB.out.cell (World.block_lt_of_cell? w _ hx464_1)).trans hx464_1
              replace hx464_2 := (HB.out.cell (World.block_lt_of_cell? w _ hx464_2)).trans hx464_2
              replace p464 := eq_true p464
              replace q464 := eq_true q464
              go_wp2_with (first | ((with_reducible refine gate_builtin (b := .append) (xs := #[.tmp 23, .tmp 28]) rfl ?_); (try (refine gate_guard (by rfl) ?_; dsimp only)); at_builtin; refine Kd.R_append k32 (w0 := w) w.heap.size rfl (.tmp 23) (.tmp 28) 23 32 (.agg #[(.int .i64 0), (.int .i64 0), (.int .i64 0)]) 24 rfl Try.underlying23 info32 rfl (by decide) (by omega) u8 x8_1 (⟨(rd_T32 l0 x9_1).f0, (rd_T32 l0 x9_1).f1, (rd_T32 l0 x9_1).f2⟩ : S32) [.int .i64 ((rd_T32 l0 x9_1).f0), .int .i64 ((rd_T32 l0 x9_1).f1), .int .i64 ((rd_T32 l0 x9_1).f2)] (fun k_ => k_ ≠ gb462) (fun _ => False) rfl rfl ?aP (fun _ hk => hk.elim) ?aF ?aO ?aB ?aS ?aL ?_; (case aP => exact k32_mkM _ _ _ (⟨(rd_T32 l0 x9_1).f0, (rd_T32 l0 x9_1).f1, (rd_T32 l0 x9_1).f2⟩ : S32)); (case aB => exact (pB HB)); (case aF => exact (fun k_ hk => Kd.freshB (g := gb462) (o := .cells #[.int .i64 0, .int .i64 0, .int .i64 0] 32 (0, 0)) (pk BK462) k_ hk)); (case aO => exact (pR HO_8)); (case aS => exact (below_size (pB HB))); (case aL => have := LMc8.out; omega); intro v466 w9 ho hb hg hat; rw [← Ny465.out] at ho; replace BK462 := Aside0.mk (blk_grown (g := gb462) (o := .cells #[.int .i64 0, .int .i64 0, .int .i64 0] 32 (0, 0)) (pk BK462) hg (Kd.R_away HO_8.out (fun _ hk => hk))); replace HB := Aside0.mk (hb); have HO467 := Aside0.mk (ho); clear HO_8; clear ho hb hg hat))
              go_roundg k1
              case measure => have := HK1.out; omega
              case rel => exact ⟨(y465), (wrap64 (x9_1 + 1)), (by first | rfl | (simp; done) | (simp [*]; done)), H', ⟨by have := HK1.out; omega⟩, ⟨by (with_reducible repeat (first | apply Kd.R_alloc | apply Kd.R_drewN | apply Kd.R_drew)); exact HO467.out⟩, ⟨by (with_reducible repeat (first | refine blk_drewN ?_ _ | refine blk_drew ?_ | refine blk_alloc ?_ _)); exact BK462.out⟩, ⟨by repeat (first | (with_reducible first | exact HB.out | apply below_alloc | apply pw_below_drewN | apply below_drew1 | refine below_set ?_ GE462.out) | exact HB.out)⟩⟩
            rw [if_neg c8] at H
            exact absurd H (by simp)
          rw [if_neg c7] at H
          have c7b0 : (((rd_T32 l0 x9_1).f0) == a1) = false := beq_eq_false_iff_ne.mpr c7
          have c7b1 : (((rd_T32 l0 x9_1).f0) != a1) = true := bne_iff_ne.mpr c7
          have H' := Aside0.mk H
          clear H
          have p463 : 0 ≤ (x9_1 : Int) := of_decide_eq_true (by first | (with_reducible assumption) | assumption)
          have q463 : x9_1 < (l0.length : Int) := of_decide_eq_true (by first | (with_reducible assumption) | assumption)
          obtain ⟨ad463, e463, hx463_0, hx463_1, hx463_2⟩ := at_T32 HR0.out x9_1 p463 q463
          cases e463
          replace hx463_0 := (HB.out.cell (World.block_lt_of_cell? w _ hx463_0)).trans hx463_0
          replace hx463_1 := (HB.out.cell (World.block_lt_of_cell? w _ hx463_1)).trans hx463_1
          replace hx463_2 := (HB.out.cell (World.block_lt_of_cell? w _ hx463_2)).trans hx463_2
          replace p463 := eq_true p463
          replace q463 := eq_true q463
          go_wp2
          go_roundg k1
          case measure => have := HK1.out; omega
          case rel => exact ⟨(x8_1), (wrap64 (x9_1 + 1)), (by first | rfl | (simp; done) | (simp [*]; done)), H', ⟨by have := HK1.out; omega⟩, ⟨by (with_reducible repeat (first | apply Kd.R_alloc | apply Kd.R_drewN | apply Kd.R_drew)); exact HO_8.out⟩, ⟨by (with_reducible repeat (first | refine blk_drewN ?_ _ | refine blk_drew ?_ | refine blk_alloc ?_ _)); exact BK462.out⟩, ⟨by repeat (first | (with_reducible first | exact HB.out | apply below_alloc | apply pw_below_drewN | apply below_drew1 | refine below_set ?_ GE462.out) | exact HB.out)⟩⟩
        rw [if_neg c6] at H
        exact absurd H (by simp)
      rw [if_neg c5] at H
      have c5b0 : decide (x9_1 < (l0.length : Int)) = false := decide_eq_false c5
      clear c5
      by_cases c10 : a2 < 0
      · rw [if_pos c10] at H
        have c10b0 : decide (a2 < 0) = true := decide_eq_true c10
        clear c10
        simp only [Option.some.injEq, Prod.mk.injEq] at H
        obtain ⟨rfl, rfl, rfl, rfl⟩ := H
        obtain ⟨hcz11_0, hcz11_1, hcz11_2, hfz11_0, hfz11_1, hfz11_2⟩ := bc3 BK462.out
        go_wp2_with (first | ((with_reducible refine gate_store (t := 32) (p := 6) rfl ?_); refine store_event (t := 32) (p := 6) (v := ?vo_w12) (w1 := (((wr.setCell ⟨gb462, 0, none⟩ (.int .i64 0)).setCell ⟨gb462, 1, none⟩ (.int .i64 0)).setCell ⟨gb462, 2, none⟩ (.int .i64 0))) ?hg ?ho ?hn ?hr ?_; (case ho => rfl); (case hg => rfl); (case hn => rfl); (case hr => first | (go_simp; done) | (go_simp; rfl)); intro w12 hw; replace HO_8 : Aside0 (Kd.R k32 32 w12 w.heap.size (fun k_ => k_ ≠ gb462) u8 x8_1) := ⟨(by rw [hw]; exact (by (with_reducible repeat (first | apply Kd.R_alloc | apply Kd.R_drewN | apply Kd.R_drew)); exact Kd.R_mono (Kd.R_far (p := ⟨gb462, 2, none⟩) (Kd.R_far (p := ⟨gb462, 1, none⟩) (Kd.R_far (p := ⟨gb462, 0, none⟩) (Kd.R_mono HO_8.out (fun k_ hk => (⟨hk, hk⟩ : _ ∧ k_ ≠ gb462))) (fun _ hk => hk.2) (.int .i64 0)) (fun _ hk => hk.2) (.int .i64 0)) (fun _ hk => hk.2) (.int .i64 0)) (fun _ hk => hk.1)))⟩; replace BK462 : Aside0 (w12.heap[gb462]? = some (.cells #[.int .i64 0, .int .i64 0, .int .i64 0] 32 (0, 0))) := ⟨by rw [hw]; apply puts3; exact BK462.out⟩; replace HB := bsE hw HB GE462; clear hw))
        refine bodyPost_ret (results_ct rfl _ _ gb462 32 #[.int .i64 0, .int .i64 0, .int .i64 0] (0, 0) _ rfl (pk BK462) Try.underlying32 rfl (by kernel_rfl)) rfl ?_
        exact ⟨by first | rfl | (simp [errW_none, errW_some] <;> rfl) | (simp [*, errW_none, errW_some] <;> rfl), by repeat (first | (with_reducible first | exact HB.out | apply below_alloc | apply pw_below_drewN | apply below_drew1 | refine below_set ?_ GE462.out) | exact HB.out)⟩
      rw [if_neg c10] at H
      have c10b0 : decide (a2 < 0) = false := decide_eq_false c10
      clear c10
      by_cases c13 : a2 ≥ (x8_1.length : Int)
      · rw [if_pos c13] at H
        have c13b0 : decide ((x8_1.length : Int) ≤ a2) = true := decide_eq_true c13
        clear c13
        simp only [Option.some.injEq, Prod.mk.injEq] at H
        obtain ⟨rfl, rfl, rfl, rfl⟩ := H
        obtain ⟨Ao14, co14, eo14⟩ := Kd.R_slice HO_8.out
        subst eo14
        obtain ⟨hcz15_0, hcz15_1, hcz15_2, hfz15_0, hfz15_1, hfz15_2⟩ := bc3 BK462.out
        go_wp2_with (first | ((with_reducible refine gate_store (t := 32) (p := 6) rfl ?_); refine store_event (t := 32) (p := 6) (v := ?vo_w16) (w1 := (((wr.setCell ⟨gb462, 0, none⟩ (.int .i64 0)).setCell ⟨gb462, 1, none⟩ (.int .i64 0)).setCell ⟨gb462, 2, none⟩ (.int .i64 0))) ?hg ?ho ?hn ?hr ?_; (case ho => rfl); (case hg => rfl); (case hn => rfl); (case hr => first | (go_simp; done) | (go_simp; rfl)); intro w16 hw; replace HO_8 : Aside0 (Kd.R k32 32 w16 w.heap.size (fun k_ => k_ ≠ gb462) (.slice Ao14 x8_1.length co14) x8_1) := ⟨(by rw [hw]; exact (by (with_reducible repeat (first | apply Kd.R_alloc | apply Kd.R_drewN | apply Kd.R_drew)); exact Kd.R_mono (Kd.R_far (p := ⟨gb462, 2, none⟩) (Kd.R_far (p := ⟨gb462, 1, none⟩) (Kd.R_far (p := ⟨gb462, 0, none⟩) (Kd.R_mono HO_8.out (fun k_ hk => (⟨hk, hk⟩ : _ ∧ k_ ≠ gb462))) (fun _ hk => hk.2) (.int .i64 0)) (fun _ hk => hk.2) (.int .i64 0)) (fun _ hk => hk.2) (.int .i64 0)) (fun _ hk => hk.1)))⟩; replace BK462 : Aside0 (w16.heap[gb462]? = some (.cells #[.int .i64 0, .int .i64 0, .int .i64 0] 32 (0, 0))) := ⟨by rw [hw]; apply puts3; exact BK462.out⟩; replace HB := bsE hw HB GE462; clear hw))
        refine bodyPost_ret (results_ct rfl _ _ gb462 32 #[.int .i64 0, .int .i64 0, .int .i64 0] (0, 0) _ rfl (pk BK462) Try.underlying32 rfl (by kernel_rfl)) rfl ?_
        exact ⟨by first | rfl | (simp [errW_none, errW_some] <;> rfl) | (simp [*, errW_none, errW_some] <;> rfl), by repeat (first | (with_reducible first | exact HB.out | apply below_alloc | apply pw_below_drewN | apply below_drew1 | refine below_set ?_ GE462.out) | exact HB.out)⟩
      rw [if_neg c13] at H
      have c13b0 : decide ((x8_1.length : Int) ≤ a2) = false := decide_eq_false c13
      clear c13
      by_cases c17 : 0 ≤ a2
      · rw [if_pos c17] at H
        have c17b0 : decide (0 ≤ a2) = true := decide_eq_true c17
        clear c17
        by_cases c18 : a2 < (x8_1.length : Int)
        · rw [if_pos c18] at H
          have c18b0 : decide (a2 < (x8_1.length : Int)) = true := decide_eq_true c18
          clear c18
          simp only [Option.some.injEq, Prod.mk.injEq] at H
          obtain ⟨rfl, rfl, rfl, rfl⟩ := H
          obtain ⟨Ao19, co19, eo19⟩ := Kd.R_slice HO_8.out
          subst eo19
          have p468 : 0 ≤ (a2 : Int) := of_decide_eq_true (by first | (with_reducible assumption) | assumption)
          have q468 : a2 < (x8_1.length : Int) := of_decide_eq_true (by first | (with_reducible assumption) | assumption)
          obtain ⟨ad468, e468, hx468_0, hx468_1, hx468_2⟩ := at_T32 (Kd.R_reads' HO_8.out).2.2 a2 p468 q468
          cases e468
          replace p468 := eq_true p468
          replace q468 := eq_true q468
          obtain ⟨hcz20_0, hcz20_1, hcz20_2, hfz20_0, hfz20_1, hfz20_2⟩ := bc3 BK462.out
          go_wp2_with (first | ((with_reducible refine gate_store (t := 32) (p := 6) rfl ?_); refine store_event (t := 32) (p := 6) (v := ?vo_w21) (w1 := (((wr.setCell ⟨gb462, 0, none⟩ (.int .i64 ((rd_T32 x8_1 a2).f0))).setCell ⟨gb462, 1, none⟩ (.int .i64 ((rd_T32 x8_1 a2).f1))).setCell ⟨gb462, 2, none⟩ (.int .i64 ((rd_T32 x8_1 a2).f2)))) ?hg ?ho ?hn ?hr ?_; (case ho => rfl); (case hg => rfl); (case hn => rfl); (case hr => first | (go_simp; done) | (go_simp; rfl)); intro w21 hw; replace HO_8 : Aside0 (Kd.R k32 32 w21 w.heap.size (fun k_ => k_ ≠ gb462) (.slice (some ad468) x8_1.length co19) x8_1) := ⟨(by rw [hw]; exact (by (with_reducible repeat (first | apply Kd.R_alloc | apply Kd.R_drewN | apply Kd.R_drew)); exact Kd.R_mono (Kd.R_far (p := ⟨gb462, 2, none⟩) (Kd.R_far (p := ⟨gb462, 1, none⟩) (Kd.R_far (p := ⟨gb462, 0, none⟩) (Kd.R_mono HO_8.out (fun k_ hk => (⟨hk, hk⟩ : _ ∧ k_ ≠ gb462))) (fun _ hk => hk.2) (.int .i64 ((rd_T32 x8_1 a2).f0))) (fun _ hk => hk.2) (.int .i64 ((rd_T32 x8_1 a2).f1))) (fun _ hk => hk.2) (.int .i64 ((rd_T32 x8_1 a2).f2))) (fun _ hk => hk.1)))⟩; replace BK462 : Aside0 (w21.heap[gb462]? = some (.cells #[.int .i64 ((rd_T32 x8_1 a2).f0), .int .i64 ((rd_T32 x8_1 a2).f1), .int .i64 ((rd_T32 x8_1 a2).f2)] 32 (0, 0))) := ⟨by rw [hw]; apply puts3; exact BK462.out⟩; replace HB := bsE hw HB GE462; clear hw))
          refine bodyPost_ret (results_ct rfl _ _ gb462 32 #[.int .i64 ((rd_T32 x8_1 a2).f0), .int .i64 ((rd_T32 x8_1 a2).f1), .int .i64 ((rd_T32 x8_1 a2).f2)] (0, 0) _ rfl (pk BK462) Try.underlying32 rfl (by kernel_rfl)) rfl ?_
          exact ⟨by first | rfl | (simp [errW_none, errW_some] <;> rfl) | (simp [*, errW_none, errW_some] <;> rfl), by repeat (first | (with_reducible first | exact HB.out | apply below_alloc | apply pw_below_drewN | apply below_drew1 | refine below_set ?_ GE462.out) | exact HB.out)⟩
        rw [if_neg c18] at H
        exact absurd H (by simp)
      rw [if_neg c17] at H
      exact absurd H (by simp)
end Go.Proofs.Ytcbdgknfkoodoaa.F
namespace Go.Proofs.Ytcbdgknfkoodoaa.F
open Go.RowKit Go.Proofs.YtcbdgknfkoodoaaW.PrintWords Go.Proofs.YtcbdgknfkoodoaaW.PrintLast Go.Proofs.YtcbdgknfkoodoaaW.PrintMore
attribute [local go_sem] max2_int min2_int max_two min_two max_three min_three max_four min_four   
set_option linter.unusedVariables false
set_option linter.unusedSimpArgs false
mutual
def crossbarref07_Owner.l0 : Nat → List (S32) → Int → Int → Option (Int)
  | 0, _, _, _ => none
  | k + 1, x0, x1, x5 => if x5 < (x0.length : Int) then (if 0 ≤ x5 then (if ((rd_T32 x0 x5).f1) > x1 then (crossbarref07_Owner.j1 k x0 x1 x5 true ((rd_T32 x0 x5).f0) ((rd_T32 x0 x5).f1) ((rd_T32 x0 x5).f2)) else (crossbarref07_Owner.j1 k x0 x1 x5 (decide (((rd_T32 x0 x5).f2) ≤ 0)) ((rd_T32 x0 x5).f0) ((rd_T32 x0 x5).f1) ((rd_T32 x0 x5).f2))) else (none)) else (some (-1))
def crossbarref07_Owner.j1 : Nat → List (S32) → Int → Int → Bool → Int → Int → Int → Option (Int)
  | 0, _, _, _, _, _, _, _ => none
  | k + 1, x0, x1, x5, x25, x471000, x471001, x471002 => if x25 = true then (crossbarref07_Owner.l0 k x0 x1 (wrap64 (x5 + 1))) else (if x471001 < 0 then (crossbarref07_Owner.j2 k x0 x1 x5 (decide (x1 ≥ 0)) x471000 x471001 x471002) else (crossbarref07_Owner.j2 k x0 x1 x5 false x471000 x471001 x471002))
def crossbarref07_Owner.j2 : Nat → List (S32) → Int → Int → Bool → Int → Int → Int → Option (Int)
  | 0, _, _, _, _, _, _, _ => none
  | k + 1, x0, x1, x5, x32, x471000, x471001, x471002 => if x32 = true then (if x1 < x471002 then (if x471001 > (wrap64 (x1 - x471002)) then (some x471000) else (crossbarref07_Owner.l0 k x0 x1 (wrap64 (x5 + 1)))) else (crossbarref07_Owner.l0 k x0 x1 (wrap64 (x5 + 1)))) else (if (wrap64 (x1 - x471001)) < x471002 then (some x471000) else (crossbarref07_Owner.l0 k x0 x1 (wrap64 (x5 + 1))))
end
def crossbarref07_Owner.f (k : Nat) (l0 : List (S32)) (a1 : Int) : Option (Int) := crossbarref07_Owner.l0 k l0 a1 0
theorem crossbarref07_Owner.mono_l : ∀ k, (∀ y0 y1 y2, LeO (crossbarref07_Owner.l0 k y0 y1 y2) (crossbarref07_Owner.l0 (k + 1) y0 y1 y2)) ∧ (∀ y0 y1 y2 y3 y4 y5 y6, LeO (crossbarref07_Owner.j1 k y0 y1 y2 y3 y4 y5 y6) (crossbarref07_Owner.j1 (k + 1) y0 y1 y2 y3 y4 y5 y6)) ∧ (∀ y0 y1 y2 y3 y4 y5 y6, LeO (crossbarref07_Owner.j2 k y0 y1 y2 y3 y4 y5 y6) (crossbarref07_Owner.j2 (k + 1) y0 y1 y2 y3 y4 y5 y6))
  | 0 => ⟨fun _ _ _ r h => by simp [crossbarref07_Owner.l0] at h, fun _ _ _ _ _ _ _ r h => by simp [crossbarref07_Owner.j1] at h, fun _ _ _ _ _ _ _ r h => by simp [crossbarref07_Owner.j2] at h⟩
  | k + 1 => by
    obtain ⟨ih0, ih1, ih2⟩ := crossbarref07_Owner.mono_l k
    refine ⟨?_, ?_, ?_⟩
    · intro y0 y1 y2
      unfold crossbarref07_Owner.l0
      repeat' first
      | (with_reducible exact ih0 _ _ _)
      | (with_reducible exact ih1 _ _ _ _ _ _ _)
      | (with_reducible exact ih2 _ _ _ _ _ _ _)
      | (with_reducible exact LeO.refl _)
      | (with_reducible exact LeO.none _)
      | (with_reducible refine LeO.ite ?_ ?_)
      | (with_reducible refine LeO.bind ?_ (fun _ => ?_))
      | exact ih0 _ _ _
      | exact ih1 _ _ _ _ _ _ _
      | exact ih2 _ _ _ _ _ _ _
      | exact LeO.none _
      | refine LeO.ite ?_ ?_
      | refine LeO.bind ?_ (fun _ => ?_)
    · intro y0 y1 y2 y3 y4 y5 y6
      unfold crossbarref07_Owner.j1
      repeat' first
      | (with_reducible exact ih0 _ _ _)
      | (with_reducible exact ih1 _ _ _ _ _ _ _)
      | (with_reducible exact ih2 _ _ _ _ _ _ _)
      | (with_reducible exact LeO.refl _)
      | (with_reducible exact LeO.none _)
      | (with_reducible refine LeO.ite ?_ ?_)
      | (with_reducible refine LeO.bind ?_ (fun _ => ?_))
      | exact ih0 _ _ _
      | exact ih1 _ _ _ _ _ _ _
      | exact ih2 _ _ _ _ _ _ _
      | exact LeO.none _
      | refine LeO.ite ?_ ?_
      | refine LeO.bind ?_ (fun _ => ?_)
    intro y0 y1 y2 y3 y4 y5 y6
    unfold crossbarref07_Owner.j2
    repeat' first
    | (with_reducible exact ih0 _ _ _)
    | (with_reducible exact ih1 _ _ _ _ _ _ _)
    | (with_reducible exact ih2 _ _ _ _ _ _ _)
    | (with_reducible exact LeO.refl _)
    | (with_reducible exact LeO.none _)
    | (with_reducible refine LeO.ite ?_ ?_)
    | (with_reducible refine LeO.bind ?_ (fun _ => ?_))
    | exact ih0 _ _ _
    | exact ih1 _ _ _ _ _ _ _
    | exact ih2 _ _ _ _ _ _ _
    | exact LeO.none _
    | refine LeO.ite ?_ ?_
    | refine LeO.bind ?_ (fun _ => ?_)
theorem crossbarref07_Owner.mono : ∀ a0 a1 k, LeO (crossbarref07_Owner.f k a0 a1) (crossbarref07_Owner.f (k + 1) a0 a1) := by
  intro a0 a1 k
  obtain ⟨ih0, ih1, ih2⟩ := crossbarref07_Owner.mono_l k
  unfold crossbarref07_Owner.f
  repeat' first
      | (with_reducible exact ih0 _ _ _)
      | (with_reducible exact ih1 _ _ _ _ _ _ _)
      | (with_reducible exact ih2 _ _ _ _ _ _ _)
      | (with_reducible exact LeO.refl _)
      | (with_reducible exact LeO.none _)
      | (with_reducible refine LeO.ite ?_ ?_)
      | (with_reducible refine LeO.bind ?_ (fun _ => ?_))
      | exact ih0 _ _ _
      | exact ih1 _ _ _ _ _ _ _
      | exact ih2 _ _ _ _ _ _ _
      | exact LeO.none _
      | refine LeO.ite ?_ ?_
      | refine LeO.bind ?_ (fun _ => ?_)
set_option maxHeartbeats 8000000 in
set_option maxRecDepth 100000 in
theorem crossbarref07_Owner.calls (k : Nat) (A0 : Option Addr) (c0 : Nat) (l0 : List (S32)) (a1 : Int) (r : Int) (w : World) (hr0 : Kd.C k32 w A0 l0.length l0) (hc0 : l0.length ≤ c0) (h : crossbarref07_Owner.f k l0 a1 = some r) :
    Calls Try.prog 16 #[.slice A0 l0.length c0, .int .i64 a1] w fun e w' => e = .returned (.int .i64 r) ∧ Below w.heap.size w w' := by
  have hu32 := Try.underlying32
  have HR0 := Aside0.mk hr0
  have HC0 := Aside0.mk hc0
  clear hr0 hc0
  have HB := Aside0.mk (Below.refl w.heap.size w)
  have H : (crossbarref07_Owner.l0 k l0 a1 0) = some r := h
  clear h
  have H' := Aside0.mk H
  clear H
  go_enter Try.func16, Try.ntmps16
  go_wp2
  go_loopg [5] k (fun kq v5 w' => ∃ (x5_1 : Int), v5 = .int .i64 x5_1 ∧ Aside0 (crossbarref07_Owner.l0 kq l0 a1 x5_1 = some r) ∧ Aside0 (kq ≤ k) ∧ Aside0 (Below w.heap.size w w'))
  case atStart => exact ⟨(0), (by first | rfl | (simp; done) | (simp [*]; done)), H', ⟨Nat.le_refl _⟩, ⟨by repeat (first | (with_reducible first | exact HB.out | apply below_alloc | apply pw_below_drewN | apply below_drew1) | exact HB.out)⟩⟩
  case round =>
    clear H'
    try clear c1
    try clear p2
    obtain ⟨x5_1, rfl, HA, HK1, HB⟩ := hrel
    cases gk with
    | zero => exact absurd HA.out (by simp [crossbarref07_Owner.l0])
    | succ k1 =>
      have H := HA.out
      clear HA
      simp only [crossbarref07_Owner.l0] at H
      by_cases c3 : x5_1 < (l0.length : Int)
      · rw [if_pos c3] at H
        have c3b0 : decide (x5_1 < (l0.length : Int)) = true := decide_eq_true c3
        clear c3
        by_cases c4 : 0 ≤ x5_1
        · rw [if_pos c4] at H
          have c4b0 : decide (0 ≤ x5_1) = true := decide_eq_true c4
          clear c4
          have HC5 := Aside0.mk H
          clear H
          have p469 : 0 ≤ (x5_1 : Int) := of_decide_eq_true (by first | (with_reducible assumption) | assumption)
          have q469 : x5_1 < (l0.length : Int) := of_decide_eq_true (by first | (with_reducible assumption) | assumption)
          obtain ⟨ad469, e469, hx469_0, hx469_1, hx469_2⟩ := at_T32 HR0.out x5_1 p469 q469
          cases e469
          replace hx469_0 := (HB.out.cell (World.block_lt_of_cell? w _ hx469_0)).trans hx469_0
          replace hx469_1 := (HB.out.cell (World.block_lt_of_cell? w _ hx469_1)).trans hx469_1
          replace hx469_2 := (HB.out.cell (World.block_lt_of_cell? w _ hx469_2)).trans hx469_2
          replace p469 := eq_true p469
          replace q469 := eq_true q469
          go_upto_region 5 with (first | ((with_reducible refine gate_dst (N := 6) rfl ?_); refine box_event ?hg (N := 6) ?hd (cs := #[.int .i64 0, .int .i64 0, .int .i64 0]) (t := 32) ?hr ?_; (case hd => rfl); (case hg => rfl); (case hr => first | (go_simp; done) | (go_simp; rfl)); intro gb470 hg w6 hbox hb; have n0_ := bstE HB hb; have BK470 := Aside0.mk (hbox); have GW470 := geE hg HB; have GE470 := geE hg HB; clear HB; have HB := n0_; clear n0_; clear hb hbox hg; obtain ⟨hcz7_0, hcz7_1, hcz7_2, hfz7_0, hfz7_1, hfz7_2⟩ := bc3 BK470.out) | ((with_reducible refine gate_store (t := 32) (p := 6) rfl ?_); refine store_event (t := 32) (p := 6) (v := ?vo_w8) (w1 := (((w6.setCell ⟨gb470, 0, none⟩ (.int .i64 ((rd_T32 l0 x5_1).f0))).setCell ⟨gb470, 1, none⟩ (.int .i64 ((rd_T32 l0 x5_1).f1))).setCell ⟨gb470, 2, none⟩ (.int .i64 ((rd_T32 l0 x5_1).f2)))) ?hg ?ho ?hn ?hr ?_; (case ho => rfl); (case hg => rfl); (case hn => rfl); (case hr => first | (go_simp; done) | (go_simp; rfl)); intro w8 hw; replace BK470 : Aside0 (w8.heap[gb470]? = some (.cells #[.int .i64 ((rd_T32 l0 x5_1).f0), .int .i64 ((rd_T32 l0 x5_1).f1), .int .i64 ((rd_T32 l0 x5_1).f2)] 32 (0, 0))) := ⟨by rw [hw]; apply puts3; exact BK470.out⟩; replace HB := bsE hw HB GE470; clear hw))
          (try simp only [Act.put, List.setIfInBounds_toArray, List.set_cons_zero, List.set_cons_succ])
          go_cut [25] (fun v25 wc => ∃ (kq : Nat) (x25_4 : Bool), v25 = .bool x25_4 ∧ Aside0 (crossbarref07_Owner.j1 kq l0 a1 x5_1 x25_4 ((rd_T32 l0 x5_1).f0) ((rd_T32 l0 x5_1).f1) ((rd_T32 l0 x5_1).f2) = some r) ∧ Aside0 (kq ≤ k1) ∧ Aside0 (wc.heap[gb470]? = some (.cells #[.int .i64 ((rd_T32 l0 x5_1).f0), .int .i64 ((rd_T32 l0 x5_1).f1), .int .i64 ((rd_T32 l0 x5_1).f2)] 32 (0, 0))) ∧ Aside0 (Below w.heap.size w wc))
          case first =>
            have H := HC5.out
            clear HC5
            by_cases c9 : ((rd_T32 l0 x5_1).f1) > a1
            · rw [if_pos c9] at H
              have c9b0 : decide (a1 < ((rd_T32 l0 x5_1).f1)) = true := decide_eq_true c9
              clear c9
              (first | rw [c9b0] | (simp only [i64_w, i32_w]; rw [c9b0]) | skip)
              have H' := Aside0.mk H
              clear H
              obtain ⟨hcz10_0, hcz10_1, hcz10_2, hfz10_0, hfz10_1, hfz10_2⟩ := bc3 BK470.out
              go_wp2
              go_meet
              case rel => exact ⟨_, (true), (by first | rfl | (simp; done) | (simp [*]; done)), H', ⟨by have := HK1.out; first | omega | exact Nat.le_refl _⟩, ⟨by (with_reducible repeat (first | refine blk_drewN ?_ _ | refine blk_drew ?_ | refine blk_alloc ?_ _)); exact BK470.out⟩, ⟨by repeat (first | (with_reducible first | exact HB.out | apply below_alloc | apply pw_below_drewN | apply below_drew1 | refine below_set ?_ GE470.out) | exact HB.out)⟩⟩
            rw [if_neg c9] at H
            have c9b0 : decide (a1 < ((rd_T32 l0 x5_1).f1)) = false := decide_eq_false c9
            clear c9
            (first | rw [c9b0] | (simp only [i64_w, i32_w]; rw [c9b0]) | skip)
            have H' := Aside0.mk H
            clear H
            obtain ⟨hcz11_0, hcz11_1, hcz11_2, hfz11_0, hfz11_1, hfz11_2⟩ := bc3 BK470.out
            go_wp2
            go_meet
            case rel => exact ⟨_, (decide (((rd_T32 l0 x5_1).f2) ≤ 0)), (by first | rfl | (simp; done) | (simp [*]; done)), H', ⟨by have := HK1.out; first | omega | exact Nat.le_refl _⟩, ⟨by (with_reducible repeat (first | refine blk_drewN ?_ _ | refine blk_drew ?_ | refine blk_alloc ?_ _)); exact BK470.out⟩, ⟨by repeat (first | (with_reducible first | exact HB.out | apply below_alloc | apply pw_below_drewN | apply below_drew1 | refine below_set ?_ GE470.out) | exact HB.out)⟩⟩
          case rest =>
            clear HC5
            try clear c1
            try clear p2
            try clear c3
            try clear c3b0
            try clear c4
            try clear c4b0
            try clear p4
            try clear q4
            try clear hx4
            try clear c9
            try clear c9b0
            try clear hcz10_0
            try clear hcz10_1
            try clear hcz10_2
            try clear hcz11_0
            try clear hcz11_1
            try clear hcz11_2
            try clear hcz7_0
            try clear hcz7_1
            try clear hcz7_2
            try clear hfz10_0
            try clear hfz10_1
            try clear hfz10_2
            try clear hfz11_0
            try clear hfz11_1
            try clear hfz11_2
            try clear hfz7_0
            try clear hfz7_1
            try clear hfz7_2
            try clear hx469_0
            try clear hx469_1
            try clear hx469_2
            try clear p2
            try clear p469
            try clear q469
            obtain ⟨kq, x25_4, rfl, HA, HJ4, BK470, HB⟩ := hcut
            cases kq with
            | zero => exact absurd HA.out (by simp [crossbarref07_Owner.j1])
            | succ kj4 =>
              have H := HA.out
              clear HA
              simp only [crossbarref07_Owner.j1] at H
              by_cases c12 : x25_4 = true
              · subst c12
                have H1 : (crossbarref07_Owner.l0 kj4 l0 a1 (wrap64 (x5_1 + 1))) = some r := by rw [if_pos rfl] at H; exact H
                clear H
                have H := H1
                clear H1
                have H' := Aside0.mk H
                clear H
                go_wp2
                go_roundg kj4
                case measure => have := HK1.out; have := HJ4.out; omega
                case rel => exact ⟨(wrap64 (x5_1 + 1)), (by first | rfl | (simp; done) | (simp [*]; done)), H', ⟨by have := HK1.out; have := HJ4.out; omega⟩, ⟨by repeat (first | (with_reducible first | exact HB.out | apply below_alloc | apply pw_below_drewN | apply below_drew1 | refine below_set ?_ GE470.out) | exact HB.out)⟩⟩
              replace c12 := Bool.eq_false_iff.mpr c12
              subst c12
              have H1 : (if ((rd_T32 l0 x5_1).f1) < 0 then (crossbarref07_Owner.j2 kj4 l0 a1 x5_1 (decide (a1 ≥ 0)) ((rd_T32 l0 x5_1).f0) ((rd_T32 l0 x5_1).f1) ((rd_T32 l0 x5_1).f2)) else (crossbarref07_Owner.j2 kj4 l0 a1 x5_1 false ((rd_T32 l0 x5_1).f0) ((rd_T32 l0 x5_1).f1) ((rd_T32 l0 x5_1).f2))) = some r := by rw [if_neg (show ¬ (false = true) by decide)] at H; exact H
              clear H
              have H := H1
              clear H1
              have HC13 := Aside0.mk H
              clear H
              go_upto_region 6 with (fail)
              go_cut [32] (fun v32 wc => ∃ (kq : Nat) (x32_12 : Bool), v32 = .bool x32_12 ∧ Aside0 (crossbarref07_Owner.j2 kq l0 a1 x5_1 x32_12 ((rd_T32 l0 x5_1).f0) ((rd_T32 l0 x5_1).f1) ((rd_T32 l0 x5_1).f2) = some r) ∧ Aside0 (kq ≤ kj4) ∧ Aside0 (wc.heap[gb470]? = some (.cells #[.int .i64 ((rd_T32 l0 x5_1).f0), .int .i64 ((rd_T32 l0 x5_1).f1), .int .i64 ((rd_T32 l0 x5_1).f2)] 32 (0, 0))) ∧ Aside0 (Below w.heap.size w wc))
              case first =>
                have H := HC13.out
                clear HC13
                by_cases c14 : ((rd_T32 l0 x5_1).f1) < 0
                · rw [if_pos c14] at H
                  have c14b0 : decide (((rd_T32 l0 x5_1).f1) < 0) = true := decide_eq_true c14
                  clear c14
                  (first | rw [c14b0] | (simp only [i64_w, i32_w]; rw [c14b0]) | skip)
                  have H' := Aside0.mk H
                  clear H
                  obtain ⟨hcz15_0, hcz15_1, hcz15_2, hfz15_0, hfz15_1, hfz15_2⟩ := bc3 BK470.out
                  go_wp2
                  go_meet
                  case rel => exact ⟨_, (decide (a1 ≥ 0)), (by first | rfl | (simp; done) | (simp [*]; done)), H', ⟨by have := HK1.out; have := HJ4.out; first | omega | exact Nat.le_refl _⟩, ⟨by (with_reducible repeat (first | refine blk_drewN ?_ _ | refine blk_drew ?_ | refine blk_alloc ?_ _)); exact BK470.out⟩, ⟨by repeat (first | (with_reducible first | exact HB.out | apply below_alloc | apply pw_below_drewN | apply below_drew1 | refine below_set ?_ GE470.out) | exact HB.out)⟩⟩
                rw [if_neg c14] at H
                have c14b0 : decide (((rd_T32 l0 x5_1).f1) < 0) = false := decide_eq_false c14
                clear c14
                (first | rw [c14b0] | (simp only [i64_w, i32_w]; rw [c14b0]) | skip)
                have H' := Aside0.mk H
                clear H
                obtain ⟨hcz16_0, hcz16_1, hcz16_2, hfz16_0, hfz16_1, hfz16_2⟩ := bc3 BK470.out
                go_wp2
                go_meet
                case rel => exact ⟨_, (false), (by first | rfl | (simp; done) | (simp [*]; done)), H', ⟨by have := HK1.out; have := HJ4.out; first | omega | exact Nat.le_refl _⟩, ⟨by (with_reducible repeat (first | refine blk_drewN ?_ _ | refine blk_drew ?_ | refine blk_alloc ?_ _)); exact BK470.out⟩, ⟨by repeat (first | (with_reducible first | exact HB.out | apply below_alloc | apply pw_below_drewN | apply below_drew1 | refine below_set ?_ GE470.out) | exact HB.out)⟩⟩
              case rest =>
                clear HC13
                try clear c1
                try clear p2
                try clear c3
                try clear c3b0
                try clear c4
                try clear c4b0
                try clear p4
                try clear q4
                try clear hx4
                try clear p6
                try clear c9
                try clear c9b0
                try clear c12
                try clear c14
                try clear c14b0
                try clear c16
                try clear hcz10_0
                try clear hcz10_1
                try clear hcz10_2
                try clear hcz11_0
                try clear hcz11_1
                try clear hcz11_2
                try clear hcz15_0
                try clear hcz15_1
                try clear hcz15_2
                try clear hcz16_0
                try clear hcz16_1
                try clear hcz16_2
                try clear hcz7_0
                try clear hcz7_1
                try clear hcz7_2
                try clear hfz10_0
                try clear hfz10_1
                try clear hfz10_2
                try clear hfz11_0
                try clear hfz11_1
                try clear hfz11_2
                try clear hfz15_0
                try clear hfz15_1
                try clear hfz15_2
                try clear hfz16_0
                try clear hfz16_1
                try clear hfz16_2
                try clear hfz7_0
                try clear hfz7_1
                try clear hfz7_2
                try clear hx469_0
                try clear hx469_1
                try clear hx469_2
                try clear p2
                try clear p4
                try clear p469
                try clear q4
                try clear q469
                obtain ⟨kq, x32_12, rfl, HA, HJ12, BK470, HB⟩ := hcut
                cases kq with
                | zero => exact absurd HA.out (by simp [crossbarref07_Owner.j2])
                | succ kj12 =>
                  have H := HA.out
                  clear HA
                  simp only [crossbarref07_Owner.j2] at H
                  by_cases c17 : x32_12 = true
                  · subst c17
                    have H1 : (if a1 < ((rd_T32 l0 x5_1).f2) then (if ((rd_T32 l0 x5_1).f1) > (wrap64 (a1 - ((rd_T32 l0 x5_1).f2))) then (some ((rd_T32 l0 x5_1).f0)) else (crossbarref07_Owner.l0 kj12 l0 a1 (wrap64 (x5_1 + 1)))) else (crossbarref07_Owner.l0 kj12 l0 a1 (wrap64 (x5_1 + 1)))) = some r := by rw [if_pos rfl] at H; exact H
                    clear H
                    have H := H1
                    clear H1
                    by_cases c18 : a1 < ((rd_T32 l0 x5_1).f2)
                    · rw [if_pos c18] at H
                      have c18b0 : decide (a1 < ((rd_T32 l0 x5_1).f2)) = true := decide_eq_true c18
                      clear c18
                      by_cases c19 : ((rd_T32 l0 x5_1).f1) > (wrap64 (a1 - ((rd_T32 l0 x5_1).f2)))
                      · rw [if_pos c19] at H
                        have c19b0 : decide ((wrap64 (a1 - ((rd_T32 l0 x5_1).f2))) < ((rd_T32 l0 x5_1).f1)) = true := decide_eq_true c19
                        clear c19
                        obtain rfl := Option.some.inj H
                        obtain ⟨hcz20_0, hcz20_1, hcz20_2, hfz20_0, hfz20_1, hfz20_2⟩ := bc3 BK470.out
                        go_wp2
                        go_ret
                        exact ⟨by first | rfl | (simp [errW_none, errW_some] <;> rfl) | (simp [*, errW_none, errW_some] <;> rfl), by repeat (first | (with_reducible first | exact HB.out | apply below_alloc | apply pw_below_drewN | apply below_drew1 | refine below_set ?_ GE470.out) | exact HB.out)⟩
                      rw [if_neg c19] at H
                      have c19b0 : decide ((wrap64 (a1 - ((rd_T32 l0 x5_1).f2))) < ((rd_T32 l0 x5_1).f1)) = false := decide_eq_false c19
                      clear c19
                      have H' := Aside0.mk H
                      clear H
                      obtain ⟨hcz21_0, hcz21_1, hcz21_2, hfz21_0, hfz21_1, hfz21_2⟩ := bc3 BK470.out
                      go_wp2
                      go_roundg kj12
                      case measure => have := HK1.out; have := HJ4.out; have := HJ12.out; omega
                      case rel => exact ⟨(wrap64 (x5_1 + 1)), (by first | rfl | (simp; done) | (simp [*]; done)), H', ⟨by have := HK1.out; have := HJ4.out; have := HJ12.out; omega⟩, ⟨by repeat (first | (with_reducible first | exact HB.out | apply below_alloc | apply pw_below_drewN | apply below_drew1 | refine below_set ?_ GE470.out) | exact HB.out)⟩⟩
                    rw [if_neg c18] at H
                    have c18b0 : decide (a1 < ((rd_T32 l0 x5_1).f2)) = false := decide_eq_false c18
                    clear c18
                    have H' := Aside0.mk H
                    clear H
                    obtain ⟨hcz22_0, hcz22_1, hcz22_2, hfz22_0, hfz22_1, hfz22_2⟩ := bc3 BK470.out
                    go_wp2
                    go_roundg kj12
                    case measure => have := HK1.out; have := HJ4.out; have := HJ12.out; omega
                    case rel => exact ⟨(wrap64 (x5_1 + 1)), (by first | rfl | (simp; done) | (simp [*]; done)), H', ⟨by have := HK1.out; have := HJ4.out; have := HJ12.out; omega⟩, ⟨by repeat (first | (with_reducible first | exact HB.out | apply below_alloc | apply pw_below_drewN | apply below_drew1 | refine below_set ?_ GE470.out) | exact HB.out)⟩⟩
                  replace c17 := Bool.eq_false_iff.mpr c17
                  subst c17
                  have H1 : (if (wrap64 (a1 - ((rd_T32 l0 x5_1).f1))) < ((rd_T32 l0 x5_1).f2) then (some ((rd_T32 l0 x5_1).f0)) else (crossbarref07_Owner.l0 kj12 l0 a1 (wrap64 (x5_1 + 1)))) = some r := by rw [if_neg (show ¬ (false = true) by decide)] at H; exact H
                  clear H
                  have H := H1
                  clear H1
                  by_cases c23 : (wrap64 (a1 - ((rd_T32 l0 x5_1).f1))) < ((rd_T32 l0 x5_1).f2)
                  · rw [if_pos c23] at H
                    have c23b0 : decide ((wrap64 (a1 - ((rd_T32 l0 x5_1).f1))) < ((rd_T32 l0 x5_1).f2)) = true := decide_eq_true c23
                    clear c23
                    obtain rfl := Option.some.inj H
                    obtain ⟨hcz24_0, hcz24_1, hcz24_2, hfz24_0, hfz24_1, hfz24_2⟩ := bc3 BK470.out
                    go_wp2
                    go_ret
                    exact ⟨by first | rfl | (simp [errW_none, errW_some] <;> rfl) | (simp [*, errW_none, errW_some] <;> rfl), by repeat (first | (with_reducible first | exact HB.out | apply below_alloc | apply pw_below_drewN | apply below_drew1 | refine below_set ?_ GE470.out) | exact HB.out)⟩
                  rw [if_neg c23] at H
                  have c23b0 : decide ((wrap64 (a1 - ((rd_T32 l0 x5_1).f1))) < ((rd_T32 l0 x5_1).f2)) = false := decide_eq_false c23
                  clear c23
                  have H' := Aside0.mk H
                  clear H
                  obtain ⟨hcz25_0, hcz25_1, hcz25_2, hfz25_0, hfz25_1, hfz25_2⟩ := bc3 BK470.out
                  go_wp2
                  go_roundg kj12
                  case measure => have := HK1.out; have := HJ4.out; have := HJ12.out; omega
                  case rel => exact ⟨(wrap64 (x5_1 + 1)), (by first | rfl | (simp; done) | (simp [*]; done)), H', ⟨by have := HK1.out; have := HJ4.out; have := HJ12.out; omega⟩, ⟨by repeat (first | (with_reducible first | exact HB.out | apply below_alloc | apply pw_below_drewN | apply below_drew1 | refine below_set ?_ GE470.out) | exact HB.out)⟩⟩
        rw [if_neg c4] at H
        exact absurd H (by simp)
      rw [if_neg c3] at H
      have c3b0 : decide (x5_1 < (l0.length : Int)) = false := decide_eq_false c3
      clear c3
      obtain rfl := Option.some.inj H
      go_wp2
      go_ret
      exact ⟨by first | rfl | (simp [errW_none, errW_some] <;> rfl) | (simp [*, errW_none, errW_some] <;> rfl), by repeat (first | (with_reducible first | exact HB.out | apply below_alloc | apply pw_below_drewN | apply below_drew1) | exact HB.out)⟩
end Go.Proofs.Ytcbdgknfkoodoaa.F
namespace Go.Proofs.Ytcbdgknfkoodoaa.F
open Go.RowKit Go.Proofs.YtcbdgknfkoodoaaW.PrintWords Go.Proofs.YtcbdgknfkoodoaaW.PrintLast Go.Proofs.YtcbdgknfkoodoaaW.PrintMore
attribute [local go_sem] max2_int min2_int max_two min_two max_three min_three max_four min_four   
set_option linter.unusedVariables false
set_option linter.unusedSimpArgs false
attribute [local go_sem high] eqA32
mutual
def crossbarlaw07_PlaceRight.j0 : Nat → List Int → List (S32) → Int → Int → Int → Bool → Option (Bool)
  | 0, _, _, _, _, _, _ => none
  | k + 1, x0, x1, x2, x3, x4, x26 => if x26 = true then (some true) else ((place_Of.f k x0).bind fun bt472 => ((crossbarref07_Of.f k x0).bind fun bt476 => (if bt472.2 = bt476.2 then ((crossbarref07_Same.f k bt472.1 bt476.1).bind fun t480 => (crossbarlaw07_PlaceRight.j1 k x1 x2 x3 x4 (!t480))) else (crossbarlaw07_PlaceRight.j1 k x1 x2 x3 x4 true))))
def crossbarlaw07_PlaceRight.j1 : Nat → List (S32) → Int → Int → Int → Bool → Option (Bool)
  | 0, _, _, _, _, _ => none
  | k + 1, x1, x2, x3, x4, x45 => if x45 = true then (none) else ((place_Find.f k x1 x2 x3).bind fun bt481 => ((crossbarref07_Find.f k x1 x2 x3).bind fun bt486 => (if (bt481.1 == bt486.1 && (bt481.2.1 == bt486.2.1 && (bt481.2.2.1 == bt486.2.2.1))) = true then (if bt481.2.2.2 = bt486.2.2.2 then ((place_Owner.f x1 x4).bind fun t491 => ((crossbarref07_Owner.f k x1 x4).bind fun t492 => (some (t491 == t492)))) else (none)) else (none))))
end
def crossbarlaw07_PlaceRight.f (k : Nat) (l0 : List Int) (l1 : List (S32)) (a2 : Int) (a3 : Int) (a4 : Int) : Option (Bool) := (crossbarlaw07_awake.f k).bind fun t471 => (if t471 = true then (if (l0.length : Int) > 70000 then (crossbarlaw07_PlaceRight.j0 k l0 l1 a2 a3 a4 true) else (crossbarlaw07_PlaceRight.j0 k l0 l1 a2 a3 a4 (decide ((l1.length : Int) > 99)))) else (none))
theorem crossbarlaw07_PlaceRight.mono_l : ∀ k, (∀ y0 y1 y2 y3 y4 y5, LeO (crossbarlaw07_PlaceRight.j0 k y0 y1 y2 y3 y4 y5) (crossbarlaw07_PlaceRight.j0 (k + 1) y0 y1 y2 y3 y4 y5)) ∧ (∀ y0 y1 y2 y3 y4, LeO (crossbarlaw07_PlaceRight.j1 k y0 y1 y2 y3 y4) (crossbarlaw07_PlaceRight.j1 (k + 1) y0 y1 y2 y3 y4))
  | 0 => ⟨fun _ _ _ _ _ _ r h => by simp [crossbarlaw07_PlaceRight.j0] at h, fun _ _ _ _ _ r h => by simp [crossbarlaw07_PlaceRight.j1] at h⟩
  | k + 1 => by
    obtain ⟨ih0, ih1⟩ := crossbarlaw07_PlaceRight.mono_l k
    refine ⟨?_, ?_⟩
    · intro y0 y1 y2 y3 y4 y5
      unfold crossbarlaw07_PlaceRight.j0
      repeat' first
      | (with_reducible exact ih0 _ _ _ _ _ _)
      | (with_reducible exact ih1 _ _ _ _ _)
      | (with_reducible exact crossbarlaw07_awake.mono _)
      | (with_reducible exact crossbarref07_Find.mono _ _ _ _)
      | (with_reducible exact crossbarref07_Of.mono _ _)
      | (with_reducible exact crossbarref07_Owner.mono _ _ _)
      | (with_reducible exact crossbarref07_Same.mono _ _ _)
      | (with_reducible exact place_Find.mono _ _ _ _)
      | (with_reducible exact place_Of.mono _ _)
      | (with_reducible exact LeO.refl _)
      | (with_reducible exact LeO.none _)
      | (with_reducible refine LeO.ite ?_ ?_)
      | (with_reducible refine LeO.bind ?_ (fun _ => ?_))
      | exact ih0 _ _ _ _ _ _
      | exact ih1 _ _ _ _ _
      | exact crossbarlaw07_awake.mono _
      | exact crossbarref07_Find.mono _ _ _ _
      | exact crossbarref07_Of.mono _ _
      | exact crossbarref07_Owner.mono _ _ _
      | exact crossbarref07_Same.mono _ _ _
      | exact place_Find.mono _ _ _ _
      | exact place_Of.mono _ _
      | exact LeO.none _
      | refine LeO.ite ?_ ?_
      | refine LeO.bind ?_ (fun _ => ?_)
    intro y0 y1 y2 y3 y4
    unfold crossbarlaw07_PlaceRight.j1
    repeat' first
    | (with_reducible exact ih0 _ _ _ _ _ _)
    | (with_reducible exact ih1 _ _ _ _ _)
    | (with_reducible exact crossbarlaw07_awake.mono _)
    | (with_reducible exact crossbarref07_Find.mono _ _ _ _)
    | (with_reducible exact crossbarref07_Of.mono _ _)
    | (with_reducible exact crossbarref07_Owner.mono _ _ _)
    | (with_reducible exact crossbarref07_Same.mono _ _ _)
    | (with_reducible exact place_Find.mono _ _ _ _)
    | (with_reducible exact place_Of.mono _ _)
    | (with_reducible exact LeO.refl _)
    | (with_reducible exact LeO.none _)
    | (with_reducible refine LeO.ite ?_ ?_)
    | (with_reducible refine LeO.bind ?_ (fun _ => ?_))
    | exact ih0 _ _ _ _ _ _
    | exact ih1 _ _ _ _ _
    | exact crossbarlaw07_awake.mono _
    | exact crossbarref07_Find.mono _ _ _ _
    | exact crossbarref07_Of.mono _ _
    | exact crossbarref07_Owner.mono _ _ _
    | exact crossbarref07_Same.mono _ _ _
    | exact place_Find.mono _ _ _ _
    | exact place_Of.mono _ _
    | exact LeO.none _
    | refine LeO.ite ?_ ?_
    | refine LeO.bind ?_ (fun _ => ?_)
theorem crossbarlaw07_PlaceRight.mono : ∀ a0 a1 a2 a3 a4 k, LeO (crossbarlaw07_PlaceRight.f k a0 a1 a2 a3 a4) (crossbarlaw07_PlaceRight.f (k + 1) a0 a1 a2 a3 a4) := by
  intro a0 a1 a2 a3 a4 k
  obtain ⟨ih0, ih1⟩ := crossbarlaw07_PlaceRight.mono_l k
  unfold crossbarlaw07_PlaceRight.f
  repeat' first
      | (with_reducible exact ih0 _ _ _ _ _ _)
      | (with_reducible exact ih1 _ _ _ _ _)
      | (with_reducible exact crossbarlaw07_awake.mono _)
      | (with_reducible exact crossbarref07_Find.mono _ _ _ _)
      | (with_reducible exact crossbarref07_Of.mono _ _)
      | (with_reducible exact crossbarref07_Owner.mono _ _ _)
      | (with_reducible exact crossbarref07_Same.mono _ _ _)
      | (with_reducible exact place_Find.mono _ _ _ _)
      | (with_reducible exact place_Of.mono _ _)
      | (with_reducible exact LeO.refl _)
      | (with_reducible exact LeO.none _)
      | (with_reducible refine LeO.ite ?_ ?_)
      | (with_reducible refine LeO.bind ?_ (fun _ => ?_))
      | exact ih0 _ _ _ _ _ _
      | exact ih1 _ _ _ _ _
      | exact crossbarlaw07_awake.mono _
      | exact crossbarref07_Find.mono _ _ _ _
      | exact crossbarref07_Of.mono _ _
      | exact crossbarref07_Owner.mono _ _ _
      | exact crossbarref07_Same.mono _ _ _
      | exact place_Find.mono _ _ _ _
      | exact place_Of.mono _ _
      | exact LeO.none _
      | refine LeO.ite ?_ ?_
      | refine LeO.bind ?_ (fun _ => ?_)
set_option maxHeartbeats 8000000 in
set_option maxRecDepth 100000 in
theorem crossbarlaw07_PlaceRight.calls (k : Nat) (A0 : Option Addr) (c0 : Nat) (l0 : List Int) (A1 : Option Addr) (c1 : Nat) (l1 : List (S32)) (a2 : Int) (a3 : Int) (a4 : Int) (r : Bool) (w : World) (hr0 : Kd.C (Kd.int .u8) w A0 l0.length l0) (hc0 : l0.length ≤ c0) (hr1 : Kd.C k32 w A1 l1.length l1) (hc1 : l1.length ≤ c1) (h : crossbarlaw07_PlaceRight.f k l0 l1 a2 a3 a4 = some r) :
    Calls Try.prog 3 #[.slice A0 l0.length c0, .slice A1 l1.length c1, .int .i64 a2, .int .i64 a3, .int .i64 a4] w fun e w' => e = .returned (.bool r) ∧ Below w.heap.size w w' := by
  have hu32 := Try.underlying32
  have HR0 := Aside0.mk hr0
  have HC0 := Aside0.mk hc0
  clear hr0 hc0
  have HR1 := Aside0.mk hr1
  have HC1 := Aside0.mk hc1
  clear hr1 hc1
  have HB := Aside0.mk (Below.refl w.heap.size w)
  have H : ((crossbarlaw07_awake.f k).bind fun t471 => (if t471 = true then (if (l0.length : Int) > 70000 then (crossbarlaw07_PlaceRight.j0 k l0 l1 a2 a3 a4 true) else (crossbarlaw07_PlaceRight.j0 k l0 l1 a2 a3 a4 (decide ((l1.length : Int) > 99)))) else (none))) = some r := h
  clear h
  replace H := Option.bind_eq_some_iff.mp H
  obtain ⟨t471, A60, H⟩ := H
  replace H : (if t471 = true then (if (l0.length : Int) > 70000 then (crossbarlaw07_PlaceRight.j0 k l0 l1 a2 a3 a4 true) else (crossbarlaw07_PlaceRight.j0 k l0 l1 a2 a3 a4 (decide ((l1.length : Int) > 99)))) else (none)) = some r := H
  have A6 := Aside0.mk A60
  clear A60
  by_cases c7 : t471 = true
  · subst c7
    have H1 : (if (l0.length : Int) > 70000 then (crossbarlaw07_PlaceRight.j0 k l0 l1 a2 a3 a4 true) else (crossbarlaw07_PlaceRight.j0 k l0 l1 a2 a3 a4 (decide ((l1.length : Int) > 99)))) = some r := by rw [if_pos rfl] at H; exact H
    clear H
    have H := H1
    clear H1
    have HC8 := Aside0.mk H
    clear H
    go_enter Try.func3, Try.ntmps3
    go_upto_region 3 with (first | ((with_reducible refine gate_callee (f := 9) rfl ?_); refine goesL_ (some 17) rfl rfl Try.func9 (by kernel_rfl) rfl #[] rfl (by (try simp only [List.map_toArray, List.map_cons, List.map_nil]); first | done | rfl | (simp only [List.length_drop, List.length_take]; rfl)) ?_; (with_reducible refine (crossbarlaw07_awake.calls k  true _ A6.out).mono ?_); rintro e w9 ⟨rfl, hb⟩; refine ⟨_, rfl, ?_⟩; replace HB := bstE HB hb; (try clear hb); (try clear hb2); (try clear hk); (try clear hi)))
    (try simp only [Act.put, List.setIfInBounds_toArray, List.set_cons_zero, List.set_cons_succ])
    go_cut [26] (fun v26 wc => ∃ (kq : Nat) (x26_7 : Bool), v26 = .bool x26_7 ∧ Aside0 (crossbarlaw07_PlaceRight.j0 kq l0 l1 a2 a3 a4 x26_7 = some r) ∧ Aside0 (kq ≤ k) ∧ Aside0 (Below w.heap.size w wc))
    case first =>
      have H := HC8.out
      clear HC8
      by_cases c10 : (l0.length : Int) > 70000
      · rw [if_pos c10] at H
        have c10b0 : decide (70000 < (l0.length : Int)) = true := decide_eq_true c10
        have c10b1 : decide (70000 < l0.length) = true := decide_eq_true (by omega)
        clear c10
        (first | rw [c10b0] | (simp only [i64_w, i32_w]; rw [c10b0]) | rw [c10b1] | skip)
        have H' := Aside0.mk H
        clear H
        go_wp2
        go_meet
        case rel => exact ⟨_, (true), (by first | rfl | (simp; done) | (simp [*]; done)), H', ⟨by first | omega | exact Nat.le_refl _⟩, ⟨by repeat (first | (with_reducible first | exact HB.out | apply below_alloc | apply pw_below_drewN | apply below_drew1) | exact HB.out)⟩⟩
      rw [if_neg c10] at H
      have c10b0 : decide (70000 < (l0.length : Int)) = false := decide_eq_false c10
      have c10b1 : decide (70000 < l0.length) = false := decide_eq_false (by omega)
      clear c10
      (first | rw [c10b0] | (simp only [i64_w, i32_w]; rw [c10b0]) | rw [c10b1] | skip)
      have H' := Aside0.mk H
      clear H
      go_wp2
      go_meet
      case rel => exact ⟨_, (decide ((l1.length : Int) > 99)), (by first | rfl | (simp; done) | (simp [*]; done)), H', ⟨by first | omega | exact Nat.le_refl _⟩, ⟨by repeat (first | (with_reducible first | exact HB.out | apply below_alloc | apply pw_below_drewN | apply below_drew1) | exact HB.out)⟩⟩
    case rest =>
      clear HC8
      try clear c1
      try clear p2
      try clear c3
      try clear c7
      try clear c9
      try clear c10
      try clear c10b0
      try clear c10b1
      obtain ⟨kq, x26_7, rfl, HA, HJ7, HB⟩ := hcut
      cases kq with
      | zero => exact absurd HA.out (by simp [crossbarlaw07_PlaceRight.j0])
      | succ kj7 =>
        have H := HA.out
        clear HA
        simp only [crossbarlaw07_PlaceRight.j0] at H
        by_cases c11 : x26_7 = true
        · subst c11
          have H1 : (some true) = some r := by rw [if_pos rfl] at H; exact H
          clear H
          have H := H1
          clear H1
          obtain rfl := Option.some.inj H
          go_wp2
          go_ret
          exact ⟨by first | rfl | (simp [errW_none, errW_some] <;> rfl) | (simp [*, errW_none, errW_some] <;> rfl), by repeat (first | (with_reducible first | exact HB.out | apply below_alloc | apply pw_below_drewN | apply below_drew1) | exact HB.out)⟩
        replace c11 := Bool.eq_false_iff.mpr c11
        subst c11
        have H1 : ((place_Of.f kj7 l0).bind fun bt472 => ((crossbarref07_Of.f kj7 l0).bind fun bt476 => (if bt472.2 = bt476.2 then ((crossbarref07_Same.f kj7 bt472.1 bt476.1).bind fun t480 => (crossbarlaw07_PlaceRight.j1 kj7 l1 a2 a3 a4 (!t480))) else (crossbarlaw07_PlaceRight.j1 kj7 l1 a2 a3 a4 true)))) = some r := by rw [if_neg (show ¬ (false = true) by decide)] at H; exact H
        clear H
        have H := H1
        clear H1
        replace H := Option.bind_eq_some_iff.mp H
        obtain ⟨⟨t472, t473⟩, A120, H⟩ := H
        replace H : ((crossbarref07_Of.f kj7 l0).bind fun bt476 => (if t473 = bt476.2 then ((crossbarref07_Same.f kj7 t472 bt476.1).bind fun t480 => (crossbarlaw07_PlaceRight.j1 kj7 l1 a2 a3 a4 (!t480))) else (crossbarlaw07_PlaceRight.j1 kj7 l1 a2 a3 a4 true))) = some r := H
        have A12 := Aside0.mk A120
        clear A120
        replace H := Option.bind_eq_some_iff.mp H
        obtain ⟨⟨t476, t477⟩, A130, H⟩ := H
        replace H : (if t473 = t477 then ((crossbarref07_Same.f kj7 t472 t476).bind fun t480 => (crossbarlaw07_PlaceRight.j1 kj7 l1 a2 a3 a4 (!t480))) else (crossbarlaw07_PlaceRight.j1 kj7 l1 a2 a3 a4 true)) = some r := H
        have A13 := Aside0.mk A130
        clear A130
        have HC14 := Aside0.mk H
        clear H
        go_upto_region 7 with (first | ((with_reducible refine gate_callee (f := 10) rfl ?_); refine goesL_ (some 29) rfl rfl Try.func10 (by kernel_rfl) rfl #[.slice A0 l0.length c0] rfl (by (try simp only [List.map_toArray, List.map_cons, List.map_nil]); first | done | rfl | (simp only [List.length_drop, List.length_take]; rfl)) ?_; (with_reducible refine (place_Of.calls kj7 _ _ l0 t472 t473 _ ?side1 ?side2 A12.out).mono ?_); (case side1 => repeat (first | exact (Kd.C_below HR0.out HB.out) | (with_reducible refine Kd.C_alloc ?_ _) | (with_reducible refine Kd.C_drewN ?_ _) | (with_reducible refine Kd.C_drew ?_))); (case side2 => exact HC0.out); rintro e w15 ⟨v474, rfl, ho0, hb⟩; refine ⟨_, rfl, ?_⟩; have HO475 := Aside0.mk (Kd.R_lower ho0 (below_size (pB HB))); replace HB := bstE HB hb; (try clear hb); (try clear hb2); (try clear hk); (try clear hi); (try clear ho0)) | ((with_reducible refine gate_callee (f := 11) rfl ?_); refine goesL_ (some 34) rfl rfl Try.func11 (by kernel_rfl) rfl #[.slice A0 l0.length c0] rfl (by (try simp only [List.map_toArray, List.map_cons, List.map_nil]); first | done | rfl | (simp only [List.length_drop, List.length_take]; rfl)) ?_; (with_reducible refine (crossbarref07_Of.calls kj7 _ _ l0 t476 t477 _ ?side1 ?side2 A13.out).mono ?_); (case side1 => repeat (first | exact (Kd.C_below HR0.out HB.out) | (with_reducible refine Kd.C_alloc ?_ _) | (with_reducible refine Kd.C_drewN ?_ _) | (with_reducible refine Kd.C_drew ?_))); (case side2 => exact HC0.out); rintro e w16 ⟨v478, rfl, ho0, hb⟩; refine ⟨_, rfl, ?_⟩; have n0_ := Aside0.mk (Kd.R_elder' (pR HO475) (Kd.R_base ho0) hb); have HO479 := Aside0.mk (Kd.R_lower (Kd.R_new' ho0 (Kd.R_lt (pR HO475))) (below_size (pB HB))); replace HB := bstE HB hb; clear HO475; have HO475 := n0_; clear n0_; (try clear hb); (try clear hb2); (try clear hk); (try clear hi); (try clear ho0)))
        (try simp only [Act.put, List.setIfInBounds_toArray, List.set_cons_zero, List.set_cons_succ])
        go_cut [45] (fun v45 wc => ∃ (kq : Nat) (x45_13 : Bool), v45 = .bool x45_13 ∧ Aside0 (crossbarlaw07_PlaceRight.j1 kq l1 a2 a3 a4 x45_13 = some r) ∧ Aside0 (kq ≤ kj7) ∧ Aside0 (Below w.heap.size w wc))
        case first =>
          have H := HC14.out
          clear HC14
          by_cases c17 : t473 = t477
          · rw [if_pos c17] at H
            have c17b0 : (t473 == t477) = true := beq_iff_eq.mpr c17
            have c17b1 : (t473 != t477) = false := bne_eq_false_iff_eq.mpr c17
            clear c17
            (first | rw [c17b0] | (simp only [i64_w, i32_w]; rw [c17b0]) | rw [c17b1] | skip)
            replace H := Option.bind_eq_some_iff.mp H
            obtain ⟨t480, A180, H⟩ := H
            replace H : (crossbarlaw07_PlaceRight.j1 kj7 l1 a2 a3 a4 (!t480)) = some r := H
            have A18 := Aside0.mk A180
            clear A180
            have H' := Aside0.mk H
            clear H
            obtain ⟨Ao19, co19, eo19⟩ := Kd.R_slice HO475.out
            subst eo19
            obtain ⟨Ao20, co20, eo20⟩ := Kd.R_slice HO479.out
            subst eo20
            go_wp2_with (first | (go_at_call 12; (with_reducible refine (crossbarref07_Same.calls kj7 _ _ t472 _ _ t476 t480 _ ?side1 ?side2 ?side3 ?side4 A18.out).mono ?_); (case side1 => repeat (first | exact (Kd.R_reads' HO475.out).2.2 | (with_reducible refine Kd.C_alloc ?_ _) | (with_reducible refine Kd.C_drewN ?_ _) | (with_reducible refine Kd.C_drew ?_))); (case side2 => exact (Kd.R_reads' HO475.out).2.1); (case side3 => repeat (first | exact (Kd.R_reads' HO479.out).2.2 | (with_reducible refine Kd.C_alloc ?_ _) | (with_reducible refine Kd.C_drewN ?_ _) | (with_reducible refine Kd.C_drew ?_))); (case side4 => exact (Kd.R_reads' HO479.out).2.1); rintro e w' ⟨rfl, ⟨nd, rfl⟩⟩))
            go_meet
            case rel => exact ⟨_, (!t480), (by first | rfl | (simp; done) | (simp [*]; done)), H', ⟨by have := HJ7.out; first | omega | exact Nat.le_refl _⟩, ⟨by repeat (first | (with_reducible first | exact HB.out | apply below_alloc | apply pw_below_drewN | apply below_drew1) | exact HB.out)⟩⟩
          rw [if_neg c17] at H
          have c17b0 : (t473 == t477) = false := beq_eq_false_iff_ne.mpr c17
          have c17b1 : (t473 != t477) = true := bne_iff_ne.mpr c17
          (first | rw [c17b0] | (simp only [i64_w, i32_w]; rw [c17b0]) | rw [c17b1] | skip)
          have H' := Aside0.mk H
          clear H
          go_wp2
          go_meet
          case rel => exact ⟨_, (true), (by first | rfl | (simp; done) | (simp [*]; done)), H', ⟨by have := HJ7.out; first | omega | exact Nat.le_refl _⟩, ⟨by repeat (first | (with_reducible first | exact HB.out | apply below_alloc | apply pw_below_drewN | apply below_drew1) | exact HB.out)⟩⟩
        case rest =>
          clear HC14
          try clear c1
          try clear p2
          try clear c3
          try clear c7
          try clear c9
          try clear c10
          try clear c10b0
          try clear c10b1
          try clear c11
          try clear c17
          try clear c17b0
          try clear c17b1
          try clear p2
          obtain ⟨kq, x45_13, rfl, HA, HJ13, HB⟩ := hcut
          cases kq with
          | zero => exact absurd HA.out (by simp [crossbarlaw07_PlaceRight.j1])
          | succ kj13 =>
            have H := HA.out
            clear HA
            simp only [crossbarlaw07_PlaceRight.j1] at H
            by_cases c21 : x45_13 = true
            · subst c21
              have H1 : (none) = some r := by rw [if_pos rfl] at H; exact H
              clear H
              have H := H1
              clear H1
              exact absurd H (by simp)
            replace c21 := Bool.eq_false_iff.mpr c21
            subst c21
            have H1 : ((place_Find.f kj13 l1 a2 a3).bind fun bt481 => ((crossbarref07_Find.f kj13 l1 a2 a3).bind fun bt486 => (if (bt481.1 == bt486.1 && (bt481.2.1 == bt486.2.1 && (bt481.2.2.1 == bt486.2.2.1))) = true then (if bt481.2.2.2 = bt486.2.2.2 then ((place_Owner.f l1 a4).bind fun t491 => ((crossbarref07_Owner.f kj13 l1 a4).bind fun t492 => (some (t491 == t492)))) else (none)) else (none)))) = some r := by rw [if_neg (show ¬ (false = true) by decide)] at H; exact H
            clear H
            have H := H1
            clear H1
            replace H := Option.bind_eq_some_iff.mp H
            obtain ⟨⟨t481, t482, t483, t484⟩, A220, H⟩ := H
            replace H : ((crossbarref07_Find.f kj13 l1 a2 a3).bind fun bt486 => (if (t481 == bt486.1 && (t482 == bt486.2.1 && (t483 == bt486.2.2.1))) = true then (if t484 = bt486.2.2.2 then ((place_Owner.f l1 a4).bind fun t491 => ((crossbarref07_Owner.f kj13 l1 a4).bind fun t492 => (some (t491 == t492)))) else (none)) else (none))) = some r := H
            have A22 := Aside0.mk A220
            clear A220
            replace H := Option.bind_eq_some_iff.mp H
            obtain ⟨⟨t486, t487, t488, t489⟩, A230, H⟩ := H
            replace H : (if (t481 == t486 && (t482 == t487 && (t483 == t488))) = true then (if t484 = t489 then ((place_Owner.f l1 a4).bind fun t491 => ((crossbarref07_Owner.f kj13 l1 a4).bind fun t492 => (some (t491 == t492)))) else (none)) else (none)) = some r := H
            have A23 := Aside0.mk A230
            clear A230
            by_cases c24 : (t481 == t486 && (t482 == t487 && (t483 == t488))) = true
            · rw [if_pos c24] at H
              have c24b0 : (t481 == t486 && (t482 == t487 && (t483 == t488))) = true := c24
              (try (have c24b1 : decide (t481 = t486 && (t482 == t487 && (t483 == t488))) = true := by simpa using c24))
              (try (have c24b2 : (t481 == t486 && (t482 == t487 && (t483 == t488))) = true := by simpa using c24))
              clear c24
              by_cases c25 : t484 = t489
              · rw [if_pos c25] at H
                have c25b0 : (t484 == t489) = true := beq_iff_eq.mpr c25
                have c25b1 : (t484 != t489) = false := bne_eq_false_iff_eq.mpr c25
                clear c25
                replace H := Option.bind_eq_some_iff.mp H
                obtain ⟨t491, A260, H⟩ := H
                replace H : ((crossbarref07_Owner.f kj13 l1 a4).bind fun t492 => (some (t491 == t492))) = some r := H
                have A26 := Aside0.mk A260
                clear A260
                replace H := Option.bind_eq_some_iff.mp H
                obtain ⟨t492, A270, H⟩ := H
                replace H : (some (t491 == t492)) = some r := H
                have A27 := Aside0.mk A270
                clear A270
                obtain rfl := Option.some.inj H
                go_wp2_with (first | ((with_reducible refine gate_callee (f := 13) rfl ?_); refine goesL_ (some 50) rfl rfl Try.func13 (by kernel_rfl) rfl #[.slice A1 l1.length c1, .int .i64 a2, .int .i64 a3] rfl (by (try simp only [List.map_toArray, List.map_cons, List.map_nil]); first | done | rfl | (simp only [List.length_drop, List.length_take]; rfl)) ?_; (with_reducible refine (place_Find.calls kj13 _ _ l1 a2 a3 t481 t482 t483 t484 _ ?side1 ?side2 A22.out).mono ?_); (case side1 => repeat (first | exact (Kd.C_below HR1.out HB.out) | (with_reducible refine Kd.C_alloc ?_ _) | (with_reducible refine Kd.C_drewN ?_ _) | (with_reducible refine Kd.C_drew ?_))); (case side2 => exact HC1.out); rintro e w28 ⟨rfl, hb⟩; refine ⟨_, rfl, ?_⟩; replace HB := bstE HB hb; (try clear hb); (try clear hb2); (try clear hk); (try clear hi)) | ((with_reducible refine gate_dst (N := 15) rfl ?_); (try (refine gate_guard (by rfl) ?_; dsimp only)); refine box_event ?hg (N := 15) ?hd (cs := #[.int .i64 0, .int .i64 0, .int .i64 0]) (t := 32) ?hr ?_; (case hd => rfl); (case hg => rfl); (case hr => first | (go_simp; done) | (go_simp; rfl)); intro gb485 hg w29 hbox hb; have n0_ := bstE HB hb; have BK485 := Aside0.mk (hbox); have GW485 := geE hg HB; have GE485 := geE hg HB; clear HB; have HB := n0_; clear n0_; clear hb hbox hg; obtain ⟨hcz30_0, hcz30_1, hcz30_2, hfz30_0, hfz30_1, hfz30_2⟩ := bc3 BK485.out) | ((with_reducible refine gate_store (t := 32) (p := 15) rfl ?_); refine store_event (t := 32) (p := 15) (v := ?vo_w31) (w1 := (((w29.setCell ⟨gb485, 0, none⟩ (.int .i64 t481)).setCell ⟨gb485, 1, none⟩ (.int .i64 t482)).setCell ⟨gb485, 2, none⟩ (.int .i64 t483))) ?hg ?ho ?hn ?hr ?_; (case ho => rfl); (case hg => rfl); (case hn => rfl); (case hr => first | (go_simp; done) | (go_simp; rfl)); intro w31 hw; replace BK485 : Aside0 (w31.heap[gb485]? = some (.cells #[.int .i64 t481, .int .i64 t482, .int .i64 t483] 32 (0, 0))) := ⟨by rw [hw]; apply puts3; exact BK485.out⟩; replace HB := bsE hw HB GE485; clear hw) | ((with_reducible refine gate_callee (f := 14) rfl ?_); refine goesL_ (some 57) rfl rfl Try.func14 (by kernel_rfl) rfl #[.slice A1 l1.length c1, .int .i64 a2, .int .i64 a3] rfl (by (try simp only [List.map_toArray, List.map_cons, List.map_nil]); first | done | rfl | (simp only [List.length_drop, List.length_take]; rfl)) ?_; (with_reducible refine (crossbarref07_Find.calls kj13 _ _ l1 a2 a3 t486 t487 t488 t489 _ ?side1 ?side2 A23.out).mono ?_); (case side1 => repeat (first | exact (Kd.C_below HR1.out HB.out) | (with_reducible refine Kd.C_alloc ?_ _) | (with_reducible refine Kd.C_drewN ?_ _) | (with_reducible refine Kd.C_drew ?_))); (case side2 => exact HC1.out); rintro e w32 ⟨rfl, hb⟩; refine ⟨_, rfl, ?_⟩; replace BK485 := bbE BK485 hb; replace HB := bstE HB hb; (try clear hb); (try clear hb2); (try clear hk); (try clear hi)) | ((with_reducible refine gate_dst (N := 16) rfl ?_); (try (refine gate_guard (by rfl) ?_; dsimp only)); refine box_event ?hg (N := 16) ?hd (cs := #[.int .i64 0, .int .i64 0, .int .i64 0]) (t := 32) ?hr ?_; (case hd => rfl); (case hg => rfl); (case hr => first | (go_simp; done) | (go_simp; rfl)); intro gb490 hg w33 hbox hb; have n0_ := bbE BK485 hb; have n1_ := bstE HB hb; have BK490 := Aside0.mk (hbox); have GW490 := geE hg HB; have GE490 := geE hg HB; have NB485_490 := nlE hg BK485; have NB490_485 := ngE hg BK485; clear BK485; clear HB; have BK485 := n0_; have HB := n1_; clear n0_ n1_; clear hb hbox hg; have hnb34 := NB490_485.out; have hnc34 := NB485_490.out; obtain ⟨hcz35_0, hcz35_1, hcz35_2, hfz35_0, hfz35_1, hfz35_2⟩ := bc3 BK490.out) | ((with_reducible refine gate_store (t := 32) (p := 16) rfl ?_); refine store_event (t := 32) (p := 16) (v := ?vo_w36) (w1 := (((w33.setCell ⟨gb490, 0, none⟩ (.int .i64 t486)).setCell ⟨gb490, 1, none⟩ (.int .i64 t487)).setCell ⟨gb490, 2, none⟩ (.int .i64 t488))) ?hg ?ho ?hn ?hr ?_; (case ho => rfl); (case hg => rfl); (case hn => rfl); (case hr => first | (go_simp; done) | (go_simp; rfl)); intro w36 hw; replace BK485 := bfE hw BK485 NB485_490; replace BK490 : Aside0 (w36.heap[gb490]? = some (.cells #[.int .i64 t486, .int .i64 t487, .int .i64 t488] 32 (0, 0))) := ⟨by rw [hw]; apply puts3; exact BK490.out⟩; replace HB := bsE hw HB GE490; clear hw; obtain ⟨hcz37_0, hcz37_1, hcz37_2, hfz37_0, hfz37_1, hfz37_2⟩ := bc3 BK485.out; obtain ⟨hcz38_0, hcz38_1, hcz38_2, hfz38_0, hfz38_1, hfz38_2⟩ := bc3 BK490.out) | (go_at_call 15; (with_reducible refine (place_Owner.calls _ _ l1 a4 t491 _ ?side1 ?side2 A26.out).mono ?_); (case side1 => repeat (first | exact (Kd.C_below HR1.out HB.out) | (with_reducible refine Kd.C_alloc ?_ _) | (with_reducible refine Kd.C_drewN ?_ _) | (with_reducible refine Kd.C_drew ?_))); (case side2 => exact HC1.out); rintro e w39 ⟨rfl, hb⟩; replace BK485 := bbE BK485 hb; replace BK490 := bbE BK490 hb; replace HB := bstE HB hb; (try clear hb); (try clear hb2); (try clear hk); (try clear hi)) | (go_at_call 16; (with_reducible refine (crossbarref07_Owner.calls kj13 _ _ l1 a4 t492 _ ?side1 ?side2 A27.out).mono ?_); (case side1 => repeat (first | exact (Kd.C_below HR1.out HB.out) | (with_reducible refine Kd.C_alloc ?_ _) | (with_reducible refine Kd.C_drewN ?_ _) | (with_reducible refine Kd.C_drew ?_))); (case side2 => exact HC1.out); rintro e w40 ⟨rfl, hb⟩; replace BK485 := bbE BK485 hb; replace BK490 := bbE BK490 hb; replace HB := bstE HB hb; (try clear hb); (try clear hb2); (try clear hk); (try clear hi)))
                go_ret
                exact ⟨by first | rfl | (simp [errW_none, errW_some] <;> rfl) | (simp [*, errW_none, errW_some] <;> rfl), by repeat (first | (with_reducible first | exact HB.out | apply below_alloc | apply pw_below_drewN | apply below_drew1 | refine below_set ?_ GE485.out | refine below_set ?_ GE490.out) | exact HB.out)⟩
              rw [if_neg c25] at H
              exact absurd H (by simp)
            rw [if_neg c24] at H
            exact absurd H (by simp)
  replace c7 := Bool.eq_false_iff.mpr c7
  subst c7
  have H1 : (none) = some r := by rw [if_neg (show ¬ (false = true) by decide)] at H; exact H
  clear H
  have H := H1
  clear H1
  exact absurd H (by simp)
end Go.Proofs.Ytcbdgknfkoodoaa.F
namespace Go.Proofs.YtcbdgknfkoodoaaW.RowKd
open Go Go.ChangeShapes Go.WideShapes Go.RowKit Go.Deep Go.Proofs.YtcbdgknfkoodoaaW.PrintWords
set_option linter.unusedVariables false
abbrev IQ (k : IntKind) : Int → Prop := fun n => (Lit.int k n).wf = true
abbrev LQ {α : Type} (Q : α → Prop) : List α → Prop := fun xs => xs.length ≤ maxLen ∧ ∀ x ∈ xs, Q x
abbrev PQ {α β : Type} (Q : α → Prop) (Q' : β → Prop) : α × β → Prop := fun v => Q v.1 ∧ Q' v.2
abbrev FQ {α β : Type} (f : β → α) (Q : α → Prop) : β → Prop := fun x => Q (f x)
def Opn (H : Type) (enc : TypeId × Value → H) (P : Program) (w : World) {α : Type} (d : Kd α) (t : TypeId) (Q : α → Prop) : Prop :=
  ∀ (fuel : Nat) (cs : List Value) (x : DataW H × List MemPlace), DataW.trod enc P w 0 (fun _ => true) true fuel t cs = some x → ∃ v, d.K w v cs ∧ Q v
section
variable {H : Type} {enc : TypeId × Value → H} {P : Program} {w : World}
theorem op_int {t : TypeId} {k : IntKind} (ht : P.underlying t = some (.int k)) : Opn H enc P w (Kd.int k) t (IQ k) := by
  intro fuel cs x h
  obtain ⟨n, rfl, _, hw⟩ := DataW.trod_int ht h
  exact ⟨n, rfl, hw⟩
theorem list_of {α : Type} {p : Nat → α → Prop} : ∀ {n : Nat}, (∀ i, i < n → ∃ v, p i v) → ∃ xs : List α, xs.length = n ∧ ∀ i v, xs[i]? = some v → p i v
  | 0, _ => ⟨[], rfl, fun i v h => by simp at h⟩
  | n + 1, h => by
    obtain ⟨xs, hl, hx⟩ := list_of (n := n) (fun i hi => h i (by omega))
    obtain ⟨v, hv⟩ := h n (by omega)
    refine ⟨xs ++ [v], by simp [hl], fun i u hu => ?_⟩
    by_cases hi : i < n
    · rw [List.getElem?_append_left (by omega)] at hu
      exact hx i u hu
    · rw [List.getElem?_append_right (by omega)] at hu
      have hi' : i = n := by
        by_cases h' : i - xs.length = 0
        · omega
        · rw [List.getElem?_eq_none (by simp; omega)] at hu
          exact absurd hu (by simp)
      subst hi'
      simp [hl] at hu
      subst hu
      exact hv
theorem maxLen_le : maxLen ≤ 9223372036854775807 := by decide
theorem op_slice {α : Type} {d : Kd α} {t e : TypeId} (g : Nat) {Q : α → Prop} (ht : P.underlying t = some (.slice e)) (hd : P.cellsOf e = d.sz) (he : Opn H enc P w d e Q) :
    Opn H enc P w (Kd.slice g d) t (LQ Q) := by
  intro fuel cs x h
  rcases DataW.trod_slice ht h with ⟨rfl, _⟩ | ⟨a, len, cap, elems, rest, n, _, rfl, _, hb, hl, hm, hlen, hel, _, _⟩
  · exact ⟨[], ⟨none, 0, rfl, Nat.le_refl _, rfl, Nat.zero_le _, fun h => absurd h (by simp)⟩, Nat.zero_le _, fun _ h => by simp at h⟩
  have each : ∀ i, i < len → ∃ v, (∃ c, c.length = d.sz ∧ d.K w v c ∧ ∀ j u, c[j]? = some u → w.cell? (a.add (i * d.sz + j)) = some u) ∧ Q v := by
    intro i hi
    have h1 := hel i hi
    rw [List.getElem?_eq_getElem (by omega)] at h1
    obtain ⟨c, hc, hx⟩ := Option.bind_eq_some_iff.1 h1
    obtain ⟨v, hv, hq⟩ := he n c _ hx
    obtain ⟨_, hcl, hcell⟩ := World.cells?_some hc
    refine ⟨v, ⟨c, by rw [hcl, hd], hv, fun j u hu => ?_⟩, hq⟩
    have hj : j < P.cellsOf e := by
      rw [← hcl]
      exact (List.getElem?_eq_some_iff.1 hu).1
    have := hcell j hj
    rw [Go.Deep.add_add, hu, hd] at this
    exact this
  obtain ⟨xs, hxl, hx⟩ := list_of each
  subst hxl
  refine ⟨xs, ⟨some a, cap, rfl, hl, rfl, Nat.le_trans hl (Nat.le_trans hm maxLen_le), fun _ => ⟨a, rfl, fun j p hp => (hx j p hp).1⟩⟩, Nat.le_trans hl hm, fun y hy => ?_⟩
  obtain ⟨i, hi⟩ := List.getElem?_of_mem hy
  exact (hx i y hi).2
def OpF (H : Type) (enc : TypeId × Value → H) (P : Program) (w : World) {α : Type} (d : Kd α) (off all : Nat) (fs : List Field) (Q : α → Prop) : Prop :=
  ∀ (n : Nat) (cs : List Value), cs.length = all → (∀ f ∈ fs, ∃ y, DataW.trod enc P w 0 (fun _ => true) true n f.type ((cs.drop f.offset).take (P.cellsOf f.type)) = some y) → ∃ v, d.K w v (cs.drop off) ∧ Q v
theorem opf_one {α : Type} {d : Kd α} {f : Field} {off all : Nat} {Q : α → Prop} (ho : f.offset = off) (ha : off + P.cellsOf f.type = all) (h : Opn H enc P w d f.type Q) : OpF H enc P w d off all [f] Q := by
  intro n cs hl hf
  obtain ⟨y, hy⟩ := hf f (by simp)
  rw [ho, List.take_of_length_le (by simp; omega)] at hy
  exact h _ _ _ hy
theorem opf_cons {α β : Type} {d : Kd α} {d' : Kd β} {f : Field} {fs : List Field} {off all : Nat} {Q : α → Prop} {Q' : β → Prop} (ho : f.offset = off) (h : Opn H enc P w d f.type Q) (h' : OpF H enc P w d' (off + P.cellsOf f.type) all fs Q') :
    OpF H enc P w (Kd.pair d d') off all (f :: fs) (PQ Q Q') := by
  intro n cs hl hf
  obtain ⟨y, hy⟩ := hf f (by simp)
  obtain ⟨v, hv, hq⟩ := h _ _ _ hy
  obtain ⟨v', hv', hq'⟩ := h' n cs hl (fun g hg => hf g (List.mem_cons_of_mem _ hg))
  refine ⟨(v, v'), ⟨_, _, ?_, hv, hv'⟩, hq, hq'⟩
  rw [ho, ← List.drop_drop, List.take_append_drop]
theorem op_struct {α : Type} {d : Kd α} {t : TypeId} {fs : Array Field} {l : List Field} {Q : α → Prop} (ht : P.underlying t = some (.struct fs)) (hl : fs.toList = l) {all : Nat} (ha : P.cellsOf t = all) (h : OpF H enc P w d 0 all l Q) : Opn H enc P w d t Q := by
  intro fuel cs x hx
  obtain ⟨xs, n, _, _, hlen, hxl, hf⟩ := DataW.trod_struct ht hx
  have := h n cs (by rw [hlen, ha]) (fun f hfm => by
    rw [← hl] at hfm
    obtain ⟨i, hi⟩ := List.getElem?_of_mem hfm
    have hi' : fs[i]? = some f := by simpa using hi
    have h2 := hf i f hi'
    have hlt : i < xs.length := by
      rw [hxl]
      exact (Array.getElem?_eq_some_iff.1 hi').1
    rw [List.getElem?_eq_getElem hlt] at h2
    exact ⟨_, h2⟩)
  simpa using this
theorem op_iso {α β : Type} {d : Kd α} {t : TypeId} {Q : α → Prop} (f : β → α) (g : α → β) (hfg : ∀ x, f (g x) = x) (h : Opn H enc P w d t Q) : Opn H enc P w (Kd.iso d f) t (FQ f Q) := by
  intro fuel cs x hx
  obtain ⟨v, hv, hq⟩ := h _ _ _ hx
  exact ⟨g v, by show d.K w (f (g v)) cs; rw [hfg]; exact hv, by show Q (f (g v)); rw [hfg]; exact hq⟩
theorem Opn.read {α : Type} {d : Kd α} {t : TypeId} {Q : α → Prop} (h : Opn H enc P w d t Q) {v : Value} {x : DataW H} {ps : List MemPlace} (ht : DataW.Trod enc P w 0 (fun _ => true) true t v x ps) : ∃ y, d.K w y v.cells.toList ∧ Q y := by
  obtain ⟨fuel, hf⟩ := ht
  exact h _ _ _ hf
end
end Go.Proofs.YtcbdgknfkoodoaaW.RowKd
namespace Go.Proofs.Ytcbdgknfkoodoaa.F
open Go Go.RowKit Go.Proofs.YtcbdgknfkoodoaaW.PrintWords Go.Proofs.YtcbdgknfkoodoaaW.PrintLast Go.Proofs.YtcbdgknfkoodoaaW.PrintMore Go.Proofs.YtcbdgknfkoodoaaW.RowKd
set_option linter.unusedVariables false
theorem op_T32 {H : Type} {enc : TypeId × Value → H} {w : World} : Opn H enc Try.prog w (k32) 32 (FQ (fun x : S32 => (x.f0, x.f1, x.f2)) (PQ (IQ .i64) (PQ (IQ .i64) (IQ .i64)))) := op_iso (fun x : S32 => (x.f0, x.f1, x.f2)) (fun v => ⟨v.1, v.2.1, v.2.2⟩) (fun _ => rfl) (op_struct Try.underlying32 rfl (all := 3) (by kernel_rfl) (opf_cons rfl (op_int Try.underlying3) (opf_cons rfl (op_int Try.underlying3) (opf_one rfl (by kernel_rfl) (op_int Try.underlying3)))))
def crossbarlaw07_PlaceRight.PureS : Prop := ∀ (l0 : List (Int)) (l1 : List (S32)) (a2 : Int) (a3 : Int) (a4 : Int), l0.length ≤ maxLen → (∀ x ∈ l0, (IQ .u8) x) → l1.length ≤ maxLen → (∀ x ∈ l1, (FQ (fun x : S32 => (x.f0, x.f1, x.f2)) (PQ (IQ .i64) (PQ (IQ .i64) (IQ .i64)))) x) → (IQ .i64) a2 → (IQ .i64) a3 → (IQ .i64) a4 → ∃ k, crossbarlaw07_PlaceRight.f k l0 l1 a2 a3 a4 = some true
end Go.Proofs.Ytcbdgknfkoodoaa.F
