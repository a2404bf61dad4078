/- The walks of the program's functions and the plain proofs for this claim, merged by a program; each theorem says what it says, no conditions beyond those stated. -/
import Derived.Test.YtcbdgknfkoodoaaKC1
import Derived.Test.YtcbdgknfkoodoaaKC4
import Derived.Test.YtcbdgknfkoodoaaKC3
import Derived.Test.YtcbdgknfkoodoaaKC2
import Derived.Test.YtcbdgknfkoodoaaKC0
import Derived.ChangeSlices
import Derived.Deep.Slices
import Derived.WideShapes
import Derived.SizedLaws
import Derived.KernelRfl
import Derived.IntWalk
import Derived.Laws.BitsLemmas
namespace Go.Proofs.Ytcbdgknfkoodoaa.F
open Go.RowKit Go.Proofs.YtcbdgknfkoodoaaW.PrintWords Go.Proofs.YtcbdgknfkoodoaaW.PrintLast Go.Proofs.YtcbdgknfkoodoaaW.PrintMore
attribute [local go_sem] max2_int min2_int max_two min_two max_three min_three max_four min_four   
set_option linter.unusedVariables false
set_option linter.unusedSimpArgs false
mutual
def crossbarref06_Right.j0 : Nat → Bool → Bool → Bool → Bool → Int → Int → Int → Int → List Int → Int → List Int → List Int → Int → Option (Bool)
 | 0, _, _, _, _, _, _, _, _, _, _, _, _, _ => none
 | k + 1, x25, x754000, x754001, x754002, x754003, x754004, x754005, x754006, x754007, x754008, x754009, x754010, x754011 => if x25 = true then (some false) else (if x754001 = true then (crossbarref06_Right.j1 k false x754000 x754001 x754002 x754003 x754004 x754005 x754006 x754007 x754008 x754009 x754010 x754011) else (if x754008 = 0 then (crossbarref06_Right.j1 k (decide ((x754009.length : Int) > 0)) x754000 x754001 x754002 x754003 x754004 x754005 x754006 x754007 x754008 x754009 x754010 x754011) else (crossbarref06_Right.j1 k true x754000 x754001 x754002 x754003 x754004 x754005 x754006 x754007 x754008 x754009 x754010 x754011)))
def crossbarref06_Right.j1 : Nat → Bool → Bool → Bool → Bool → Int → Int → Int → Int → List Int → Int → List Int → List Int → Int → Option (Bool)
 | 0, _, _, _, _, _, _, _, _, _, _, _, _, _ => none
 | k + 1, x40, x754000, x754001, x754002, x754003, x754004, x754005, x754006, x754007, x754008, x754009, x754010, x754011 => if x40 = true then (some false) else (if x754000 = true then (if x754011 < 1 then (some false) else (if x754011 > 255 then (some false) else ((crossbarref06_Size.f x754000 x754001 x754002 x754003 x754004 x754005 x754006 x754007 x754008 x754009 x754010 x754011).bind fun t755 => (some (decide (t755 ≤ 65535)))))) else (if x754011 = 0 then ((crossbarref06_Size.f x754000 x754001 x754002 x754003 x754004 x754005 x754006 x754007 x754008 x754009 x754010 x754011).bind fun t756 => (some (decide (t756 ≤ 65535)))) else (some false)))
end
def crossbarref06_Right.f (k : Nat) (a0_0 : Bool) (a0_1 : Bool) (a0_2 : Bool) (a0_3 : Int) (a0_4 : Int) (a0_5 : Int) (a0_6 : Int) (l0_7 : List Int) (a0_8 : Int) (l0_9 : List Int) (l0_10 : List Int) (a0_11 : Int) : Option (Bool) := (crossbarref05_Right.f a0_0 a0_1 a0_2 a0_3 a0_4 a0_5 a0_6 l0_7).bind fun t754 => (if t754 = true then (if (l0_10.length : Int) > 65535 then (crossbarref06_Right.j0 k true a0_0 a0_1 a0_2 a0_3 a0_4 a0_5 a0_6 l0_7 a0_8 l0_9 l0_10 a0_11) else (if (l0_9.length : Int) > 262140 then (crossbarref06_Right.j0 k true a0_0 a0_1 a0_2 a0_3 a0_4 a0_5 a0_6 l0_7 a0_8 l0_9 l0_10 a0_11) else (crossbarref06_Right.j0 k (((l0_9.length : Int) % 4) != 0) a0_0 a0_1 a0_2 a0_3 a0_4 a0_5 a0_6 l0_7 a0_8 l0_9 l0_10 a0_11))) else (crossbarref06_Right.j0 k true a0_0 a0_1 a0_2 a0_3 a0_4 a0_5 a0_6 l0_7 a0_8 l0_9 l0_10 a0_11))
set_option maxHeartbeats 8000000 in
set_option maxRecDepth 100000 in
theorem crossbarref06_Right.calls (k : Nat) (a0_0 : Bool) (a0_1 : Bool) (a0_2 : Bool) (a0_3 : Int) (a0_4 : Int) (a0_5 : Int) (a0_6 : Int) (A0_7 : Option Addr) (c0_7 : Nat) (l0_7 : List Int) (a0_8 : Int) (A0_9 : Option Addr) (c0_9 : Nat) (l0_9 : List Int) (A0_10 : Option Addr) (c0_10 : Nat) (l0_10 : List Int) (a0_11 : Int) (r : Bool) (w : World) (hr0_7 : Kd.C (Kd.int .u32) w A0_7 l0_7.length l0_7) (hc0_7 : l0_7.length ≤ c0_7) (hr0_9 : Kd.C (Kd.int .u8) w A0_9 l0_9.length l0_9) (hc0_9 : l0_9.length ≤ c0_9) (hr0_10 : Kd.C (Kd.int .u8) w A0_10 l0_10.length l0_10) (hc0_10 : l0_10.length ≤ c0_10) (h : crossbarref06_Right.f k a0_0 a0_1 a0_2 a0_3 a0_4 a0_5 a0_6 l0_7 a0_8 l0_9 l0_10 a0_11 = some r) :
  Calls Try.prog 21 #[.agg #[.bool a0_0, .bool a0_1, .bool a0_2, .int .i64 a0_3, .int .u16 a0_4, .int .u32 a0_5, .int .u32 a0_6, .slice A0_7 l0_7.length c0_7, .int .u16 a0_8, .slice A0_9 l0_9.length c0_9, .slice A0_10 l0_10.length c0_10, .int .i64 a0_11]] w fun e w' => e = .returned (.bool r) ∧ Below w.heap.size w w' := by
 have hu45 := Try.underlying45
 have hu43 := Try.underlying43
 have HR0_7 := Aside0.mk hr0_7
 have HC0_7 := Aside0.mk hc0_7
 clear hr0_7 hc0_7
 have HR0_9 := Aside0.mk hr0_9
 have HC0_9 := Aside0.mk hc0_9
 clear hr0_9 hc0_9
 have HR0_10 := Aside0.mk hr0_10
 have HC0_10 := Aside0.mk hc0_10
 clear hr0_10 hc0_10
 have HB := Aside0.mk (Below.refl w.heap.size w)
 have H : ((crossbarref05_Right.f a0_0 a0_1 a0_2 a0_3 a0_4 a0_5 a0_6 l0_7).bind fun t754 => (if t754 = true then (if (l0_10.length : Int) > 65535 then (crossbarref06_Right.j0 k true a0_0 a0_1 a0_2 a0_3 a0_4 a0_5 a0_6 l0_7 a0_8 l0_9 l0_10 a0_11) else (if (l0_9.length : Int) > 262140 then (crossbarref06_Right.j0 k true a0_0 a0_1 a0_2 a0_3 a0_4 a0_5 a0_6 l0_7 a0_8 l0_9 l0_10 a0_11) else (crossbarref06_Right.j0 k (((l0_9.length : Int) % 4) != 0) a0_0 a0_1 a0_2 a0_3 a0_4 a0_5 a0_6 l0_7 a0_8 l0_9 l0_10 a0_11))) else (crossbarref06_Right.j0 k true a0_0 a0_1 a0_2 a0_3 a0_4 a0_5 a0_6 l0_7 a0_8 l0_9 l0_10 a0_11))) = some r := h
 clear h
 have HC2 := Aside0.mk H
 clear H
 go_enter Try.func21, Try.ntmps21
 go_upto_region 1 with (first | ((with_reducible refine gate_dst (N := 1) rfl ?_); (try (refine gate_guard (by rfl) ?_; dsimp only)); refine box_event ?hg (N := 1) ?hd (cs := #[.bool a0_0, .bool a0_1, .bool a0_2, .int .i64 a0_3, .int .u16 a0_4, .int .u32 a0_5, .int .u32 a0_6, .slice A0_7 l0_7.length c0_7, .int .u16 a0_8, .slice A0_9 l0_9.length c0_9, .slice A0_10 l0_10.length c0_10, .int .i64 a0_11]) (t := 45) ?hr ?_; (case hd => rfl); (case hg => rfl); (case hr => first | (go_simp; done) | (go_simp; rfl)); intro gb753 hg w3 hbox hb; have n0_ := bstE HB hb; have BK753 := Aside0.mk (hbox); have GW753 := geE hg HB; have GE753 := geE hg HB; clear HB; have HB := n0_; clear n0_; clear hb hbox hg))
 (try simp only [Act.put, List.setIfInBounds_toArray, List.set_cons_zero, List.set_cons_succ])
 go_cut [25] (fun v25 wc => ∃ (kq : Nat) (x25_1 : Bool), v25 = .bool x25_1 ∧ Aside0 (crossbarref06_Right.j0 kq x25_1 a0_0 a0_1 a0_2 a0_3 a0_4 a0_5 a0_6 l0_7 a0_8 l0_9 l0_10 a0_11 = some r) ∧ Aside0 (kq ≤ k) ∧ Aside0 (wc.heap[gb753]? = some (.cells #[.bool a0_0, .bool a0_1, .bool a0_2, .int .i64 a0_3, .int .u16 a0_4, .int .u32 a0_5, .int .u32 a0_6, (.slice A0_7 l0_7.length c0_7), .int .u16 a0_8, (.slice A0_9 l0_9.length c0_9), (.slice A0_10 l0_10.length c0_10), .int .i64 a0_11] 45 (0, 0))) ∧ Aside0 (Below w.heap.size w wc))
 case first =>
  have H := HC2.out
  clear HC2
  replace H := Option.bind_eq_some_iff.mp H
  obtain ⟨t754, A40, H⟩ := H
  replace H : (if t754 = true then (if (l0_10.length : Int) > 65535 then (crossbarref06_Right.j0 k true a0_0 a0_1 a0_2 a0_3 a0_4 a0_5 a0_6 l0_7 a0_8 l0_9 l0_10 a0_11) else (if (l0_9.length : Int) > 262140 then (crossbarref06_Right.j0 k true a0_0 a0_1 a0_2 a0_3 a0_4 a0_5 a0_6 l0_7 a0_8 l0_9 l0_10 a0_11) else (crossbarref06_Right.j0 k (((l0_9.length : Int) % 4) != 0) a0_0 a0_1 a0_2 a0_3 a0_4 a0_5 a0_6 l0_7 a0_8 l0_9 l0_10 a0_11))) else (crossbarref06_Right.j0 k true a0_0 a0_1 a0_2 a0_3 a0_4 a0_5 a0_6 l0_7 a0_8 l0_9 l0_10 a0_11)) = some r := H
  have A4 := Aside0.mk A40
  clear A40
  by_cases c5 : t754 = true
  ·subst c5
   have H1 : (if (l0_10.length : Int) > 65535 then (crossbarref06_Right.j0 k true a0_0 a0_1 a0_2 a0_3 a0_4 a0_5 a0_6 l0_7 a0_8 l0_9 l0_10 a0_11) else (if (l0_9.length : Int) > 262140 then (crossbarref06_Right.j0 k true a0_0 a0_1 a0_2 a0_3 a0_4 a0_5 a0_6 l0_7 a0_8 l0_9 l0_10 a0_11) else (crossbarref06_Right.j0 k (((l0_9.length : Int) % 4) != 0) a0_0 a0_1 a0_2 a0_3 a0_4 a0_5 a0_6 l0_7 a0_8 l0_9 l0_10 a0_11))) = some r := by rw [if_pos rfl] at H; exact H
   clear H
   have H := H1
   clear H1
   by_cases c6 : (l0_10.length : Int) > 65535
   ·rw [if_pos c6] at H
    have c6b0 : decide (65535 < (l0_10.length : Int)) = true := decide_eq_true c6
    have c6b1 : decide (65535 < l0_10.length) = true := decide_eq_true (by omega)
    clear c6
    (first | rw [c6b0] | (simp only [i64_w, i32_w]; rw [c6b0]) | rw [c6b1] | skip)
    have H' := Aside0.mk H
    clear H
    obtain ⟨Z7_0, Z7_1, Z7_2, Z7_3, Z7_4, Z7_5, Z7_6, Z7_7, Z7_8, Z7_9, Z7_10, Z7_11, Y7_0, Y7_1, Y7_2, Y7_3, Y7_4, Y7_5, Y7_6, Y7_7, Y7_8, Y7_9, Y7_10, Y7_11⟩ := bc12 BK753.out
    go_wp2_with (first | ((with_reducible refine gate_callee (f := 34) rfl ?_); refine goesL_ (some 5) rfl rfl Try.func34 (by kernel_rfl) rfl #[.agg #[.bool a0_0, .bool a0_1, .bool a0_2, .int .i64 a0_3, .int .u16 a0_4, .int .u32 a0_5, .int .u32 a0_6, .slice A0_7 l0_7.length c0_7]] rfl (by (try simp only [List.map_toArray, List.map_cons, List.map_nil]); first | done | rfl | (simp only [List.length_drop, List.length_take]; rfl)) ?_; (with_reducible refine (crossbarref05_Right.calls a0_0 a0_1 a0_2 a0_3 a0_4 a0_5 a0_6 _ _ l0_7 true _ ?side1 ?side2 A4.out).mono ?_); (case side1 => exact cbE HR0_7 HB); (case side2 => exact HC0_7.out); rintro e w8 ⟨rfl, hb⟩; refine ⟨_, rfl, ?_⟩; replace BK753 := bbE BK753 hb; replace HB := bstE HB hb; (try clear hb); (try clear hb2); (try clear hk); (try clear hi); obtain ⟨Z9_0, Z9_1, Z9_2, Z9_3, Z9_4, Z9_5, Z9_6, Z9_7, Z9_8, Z9_9, Z9_10, Z9_11, Y9_0, Y9_1, Y9_2, Y9_3, Y9_4, Y9_5, Y9_6, Y9_7, Y9_8, Y9_9, Y9_10, Y9_11⟩ := bc12 BK753.out))
    go_meet
    case rel => exact ⟨_, (true), (by first | rfl | (simp; done) | (simp [*]; done)), H', ⟨by first | omega | exact Nat.le_refl _⟩, ⟨by (with_reducible repeat (first | refine blk_drewN ?_ _ | refine blk_drew ?_ | refine blk_alloc ?_ _)); exact BK753.out⟩, ⟨by repeat (first | (with_reducible first | exact HB.out | apply below_alloc | apply pw_below_drewN | apply below_drew1 | refine below_set ?_ GE753.out) | exact HB.out)⟩⟩
   rw [if_neg c6] at H
   have c6b0 : decide (65535 < (l0_10.length : Int)) = false := decide_eq_false c6
   have c6b1 : decide (65535 < l0_10.length) = false := decide_eq_false (by omega)
   clear c6
   (first | rw [c6b0] | (simp only [i64_w, i32_w]; rw [c6b0]) | rw [c6b1] | skip)
   by_cases c10 : (l0_9.length : Int) > 262140
   ·rw [if_pos c10] at H
    have c10b0 : decide (262140 < (l0_9.length : Int)) = true := decide_eq_true c10
    have c10b1 : decide (262140 < l0_9.length) = true := decide_eq_true (by omega)
    clear c10
    have H' := Aside0.mk H
    clear H
    obtain ⟨Z11_0, Z11_1, Z11_2, Z11_3, Z11_4, Z11_5, Z11_6, Z11_7, Z11_8, Z11_9, Z11_10, Z11_11, Y11_0, Y11_1, Y11_2, Y11_3, Y11_4, Y11_5, Y11_6, Y11_7, Y11_8, Y11_9, Y11_10, Y11_11⟩ := bc12 BK753.out
    go_wp2_with (first | ((with_reducible refine gate_callee (f := 34) rfl ?_); refine goesL_ (some 5) rfl rfl Try.func34 (by kernel_rfl) rfl #[.agg #[.bool a0_0, .bool a0_1, .bool a0_2, .int .i64 a0_3, .int .u16 a0_4, .int .u32 a0_5, .int .u32 a0_6, .slice A0_7 l0_7.length c0_7]] rfl (by (try simp only [List.map_toArray, List.map_cons, List.map_nil]); first | done | rfl | (simp only [List.length_drop, List.length_take]; rfl)) ?_; (with_reducible refine (crossbarref05_Right.calls a0_0 a0_1 a0_2 a0_3 a0_4 a0_5 a0_6 _ _ l0_7 true _ ?side1 ?side2 A4.out).mono ?_); (case side1 => exact cbE HR0_7 HB); (case side2 => exact HC0_7.out); rintro e w12 ⟨rfl, hb⟩; refine ⟨_, rfl, ?_⟩; replace BK753 := bbE BK753 hb; replace HB := bstE HB hb; (try clear hb); (try clear hb2); (try clear hk); (try clear hi); obtain ⟨Z13_0, Z13_1, Z13_2, Z13_3, Z13_4, Z13_5, Z13_6, Z13_7, Z13_8, Z13_9, Z13_10, Z13_11, Y13_0, Y13_1, Y13_2, Y13_3, Y13_4, Y13_5, Y13_6, Y13_7, Y13_8, Y13_9, Y13_10, Y13_11⟩ := bc12 BK753.out))
    go_meet
    case rel => exact ⟨_, (true), (by first | rfl | (simp; done) | (simp [*]; done)), H', ⟨by first | omega | exact Nat.le_refl _⟩, ⟨by (with_reducible repeat (first | refine blk_drewN ?_ _ | refine blk_drew ?_ | refine blk_alloc ?_ _)); exact BK753.out⟩, ⟨by repeat (first | (with_reducible first | exact HB.out | apply below_alloc | apply pw_below_drewN | apply below_drew1 | refine below_set ?_ GE753.out) | exact HB.out)⟩⟩
   rw [if_neg c10] at H
   have c10b0 : decide (262140 < (l0_9.length : Int)) = false := decide_eq_false c10
   have c10b1 : decide (262140 < l0_9.length) = false := decide_eq_false (by omega)
   clear c10
   have H' := Aside0.mk H
   clear H
   obtain ⟨Z14_0, Z14_1, Z14_2, Z14_3, Z14_4, Z14_5, Z14_6, Z14_7, Z14_8, Z14_9, Z14_10, Z14_11, Y14_0, Y14_1, Y14_2, Y14_3, Y14_4, Y14_5, Y14_6, Y14_7, Y14_8, Y14_9, Y14_10, Y14_11⟩ := bc12 BK753.out
   go_wp2_with (first | ((with_reducible refine gate_callee (f := 34) rfl ?_); refine goesL_ (some 5) rfl rfl Try.func34 (by kernel_rfl) rfl #[.agg #[.bool a0_0, .bool a0_1, .bool a0_2, .int .i64 a0_3, .int .u16 a0_4, .int .u32 a0_5, .int .u32 a0_6, .slice A0_7 l0_7.length c0_7]] rfl (by (try simp only [List.map_toArray, List.map_cons, List.map_nil]); first | done | rfl | (simp only [List.length_drop, List.length_take]; rfl)) ?_; (with_reducible refine (crossbarref05_Right.calls a0_0 a0_1 a0_2 a0_3 a0_4 a0_5 a0_6 _ _ l0_7 true _ ?side1 ?side2 A4.out).mono ?_); (case side1 => exact cbE HR0_7 HB); (case side2 => exact HC0_7.out); rintro e w15 ⟨rfl, hb⟩; refine ⟨_, rfl, ?_⟩; replace BK753 := bbE BK753 hb; replace HB := bstE HB hb; (try clear hb); (try clear hb2); (try clear hk); (try clear hi); obtain ⟨Z16_0, Z16_1, Z16_2, Z16_3, Z16_4, Z16_5, Z16_6, Z16_7, Z16_8, Z16_9, Z16_10, Z16_11, Y16_0, Y16_1, Y16_2, Y16_3, Y16_4, Y16_5, Y16_6, Y16_7, Y16_8, Y16_9, Y16_10, Y16_11⟩ := bc12 BK753.out))
   go_meet
   case rel => exact ⟨_, ((((l0_9.length : Int) % 4) != 0)), (by first | rfl | (simp; done) | (simp [*]; done)), H', ⟨by first | omega | exact Nat.le_refl _⟩, ⟨by (with_reducible repeat (first | refine blk_drewN ?_ _ | refine blk_drew ?_ | refine blk_alloc ?_ _)); exact BK753.out⟩, ⟨by repeat (first | (with_reducible first | exact HB.out | apply below_alloc | apply pw_below_drewN | apply below_drew1 | refine below_set ?_ GE753.out) | exact HB.out)⟩⟩
  replace c5 := Bool.eq_false_iff.mpr c5
  subst c5
  have H1 : (crossbarref06_Right.j0 k true a0_0 a0_1 a0_2 a0_3 a0_4 a0_5 a0_6 l0_7 a0_8 l0_9 l0_10 a0_11) = some r := by rw [if_neg (show ¬ (false = true) by decide)] at H; exact H
  clear H
  have H := H1
  clear H1
  have H' := Aside0.mk H
  clear H
  obtain ⟨Z17_0, Z17_1, Z17_2, Z17_3, Z17_4, Z17_5, Z17_6, Z17_7, Z17_8, Z17_9, Z17_10, Z17_11, Y17_0, Y17_1, Y17_2, Y17_3, Y17_4, Y17_5, Y17_6, Y17_7, Y17_8, Y17_9, Y17_10, Y17_11⟩ := bc12 BK753.out
  go_wp2_with (first | ((with_reducible refine gate_callee (f := 34) rfl ?_); refine goesL_ (some 5) rfl rfl Try.func34 (by kernel_rfl) rfl #[.agg #[.bool a0_0, .bool a0_1, .bool a0_2, .int .i64 a0_3, .int .u16 a0_4, .int .u32 a0_5, .int .u32 a0_6, .slice A0_7 l0_7.length c0_7]] rfl (by (try simp only [List.map_toArray, List.map_cons, List.map_nil]); first | done | rfl | (simp only [List.length_drop, List.length_take]; rfl)) ?_; (with_reducible refine (crossbarref05_Right.calls a0_0 a0_1 a0_2 a0_3 a0_4 a0_5 a0_6 _ _ l0_7 false _ ?side1 ?side2 A4.out).mono ?_); (case side1 => exact cbE HR0_7 HB); (case side2 => exact HC0_7.out); rintro e w18 ⟨rfl, hb⟩; refine ⟨_, rfl, ?_⟩; replace BK753 := bbE BK753 hb; replace HB := bstE HB hb; (try clear hb); (try clear hb2); (try clear hk); (try clear hi)))
  go_meet
  case rel => exact ⟨_, (true), (by first | rfl | (simp; done) | (simp [*]; done)), H', ⟨by first | omega | exact Nat.le_refl _⟩, ⟨by (with_reducible repeat (first | refine blk_drewN ?_ _ | refine blk_drew ?_ | refine blk_alloc ?_ _)); exact BK753.out⟩, ⟨by repeat (first | (with_reducible first | exact HB.out | apply below_alloc | apply pw_below_drewN | apply below_drew1 | refine below_set ?_ GE753.out) | exact HB.out)⟩⟩
 case rest =>
  clear HC2
  try clear c1
  try clear c2
  try clear p2
  try clear c3
  try clear c5
  try clear c6
  try clear c6b0
  try clear c6b1
  try clear c10
  try clear c10b0
  try clear c10b1
  try clear Z11_0 Z11_1 Z11_10 Z11_11 Z11_2 Z11_3 Z11_4 Z11_5 Z11_6 Z11_7 Z11_8 Z11_9
  try clear Z13_0 Z13_1 Z13_10 Z13_11 Z13_2 Z13_3 Z13_4 Z13_5 Z13_6 Z13_7 Z13_8 Z13_9
  try clear Z14_0 Z14_1 Z14_10 Z14_11 Z14_2 Z14_3 Z14_4 Z14_5 Z14_6 Z14_7 Z14_8 Z14_9
  try clear Z16_0 Z16_1 Z16_10 Z16_11 Z16_2 Z16_3 Z16_4 Z16_5 Z16_6 Z16_7 Z16_8 Z16_9
  try clear Z17_0 Z17_1 Z17_10 Z17_11 Z17_2 Z17_3 Z17_4 Z17_5 Z17_6 Z17_7 Z17_8 Z17_9
  try clear Z7_0 Z7_1 Z7_10 Z7_11 Z7_2 Z7_3 Z7_4 Z7_5 Z7_6 Z7_7 Z7_8 Z7_9
  try clear Z9_0 Z9_1 Z9_10 Z9_11 Z9_2 Z9_3 Z9_4 Z9_5 Z9_6 Z9_7 Z9_8 Z9_9
  try clear Y11_0 Y11_1 Y11_10 Y11_11 Y11_2 Y11_3 Y11_4 Y11_5 Y11_6 Y11_7 Y11_8 Y11_9
  try clear Y13_0 Y13_1 Y13_10 Y13_11 Y13_2 Y13_3 Y13_4 Y13_5 Y13_6 Y13_7 Y13_8 Y13_9
  try clear Y14_0 Y14_1 Y14_10 Y14_11 Y14_2 Y14_3 Y14_4 Y14_5 Y14_6 Y14_7 Y14_8 Y14_9
  try clear Y16_0 Y16_1 Y16_10 Y16_11 Y16_2 Y16_3 Y16_4 Y16_5 Y16_6 Y16_7 Y16_8 Y16_9
  try clear Y17_0 Y17_1 Y17_10 Y17_11 Y17_2 Y17_3 Y17_4 Y17_5 Y17_6 Y17_7 Y17_8 Y17_9
  try clear Y7_0 Y7_1 Y7_10 Y7_11 Y7_2 Y7_3 Y7_4 Y7_5 Y7_6 Y7_7 Y7_8 Y7_9
  try clear Y9_0 Y9_1 Y9_10 Y9_11 Y9_2 Y9_3 Y9_4 Y9_5 Y9_6 Y9_7 Y9_8 Y9_9
  obtain ⟨kq, x25_1, rfl, HA, HJ1, BK753, HB⟩ := hcut
  cases kq with
  | zero => exact absurd HA.out (by simp [crossbarref06_Right.j0])
  | succ kj1 =>
   have H := HA.out
   clear HA
   simp only [crossbarref06_Right.j0] at H
   by_cases c19 : x25_1 = true
   ·subst c19
    have H1 : (some false) = some r := by rw [if_pos rfl] at H; exact H
    clear H
    have H := H1
    clear H1
    obtain rfl := Option.some.inj H
    go_wp2
    go_ret
    exact ⟨by first | rfl | (simp [errW_none, errW_some] <;> rfl) | (simp [*, errW_none, errW_some] <;> rfl), by repeat (first | (with_reducible first | exact HB.out | apply below_alloc | apply pw_below_drewN | apply below_drew1 | refine below_set ?_ GE753.out) | exact HB.out)⟩
   replace c19 := Bool.eq_false_iff.mpr c19
   subst c19
   have H1 : (if a0_1 = true then (crossbarref06_Right.j1 kj1 false a0_0 a0_1 a0_2 a0_3 a0_4 a0_5 a0_6 l0_7 a0_8 l0_9 l0_10 a0_11) else (if a0_8 = 0 then (crossbarref06_Right.j1 kj1 (decide ((l0_9.length : Int) > 0)) a0_0 a0_1 a0_2 a0_3 a0_4 a0_5 a0_6 l0_7 a0_8 l0_9 l0_10 a0_11) else (crossbarref06_Right.j1 kj1 true a0_0 a0_1 a0_2 a0_3 a0_4 a0_5 a0_6 l0_7 a0_8 l0_9 l0_10 a0_11))) = some r := by rw [if_neg (show ¬ (false = true) by decide)] at H; exact H
   clear H
   have H := H1
   clear H1
   have HC20 := Aside0.mk H
   clear H
   go_upto_region 3 with (fail)
   go_cut [40] (fun v40 wc => ∃ (kq : Nat) (x40_19 : Bool), v40 = .bool x40_19 ∧ Aside0 (crossbarref06_Right.j1 kq x40_19 a0_0 a0_1 a0_2 a0_3 a0_4 a0_5 a0_6 l0_7 a0_8 l0_9 l0_10 a0_11 = some r) ∧ Aside0 (kq ≤ kj1) ∧ Aside0 (wc.heap[gb753]? = some (.cells #[.bool a0_0, .bool a0_1, .bool a0_2, .int .i64 a0_3, .int .u16 a0_4, .int .u32 a0_5, .int .u32 a0_6, (.slice A0_7 l0_7.length c0_7), .int .u16 a0_8, (.slice A0_9 l0_9.length c0_9), (.slice A0_10 l0_10.length c0_10), .int .i64 a0_11] 45 (0, 0))) ∧ Aside0 (Below w.heap.size w wc))
   case first =>
    have H := HC20.out
    clear HC20
    by_cases c21 : a0_1 = true
    ·subst c21
     have H1 : (crossbarref06_Right.j1 kj1 false a0_0 true a0_2 a0_3 a0_4 a0_5 a0_6 l0_7 a0_8 l0_9 l0_10 a0_11) = some r := by rw [if_pos rfl] at H; exact H
     clear H
     have H := H1
     clear H1
     have H' := Aside0.mk H
     clear H
     obtain ⟨Z22_0, Z22_1, Z22_2, Z22_3, Z22_4, Z22_5, Z22_6, Z22_7, Z22_8, Z22_9, Z22_10, Z22_11, Y22_0, Y22_1, Y22_2, Y22_3, Y22_4, Y22_5, Y22_6, Y22_7, Y22_8, Y22_9, Y22_10, Y22_11⟩ := bc12 BK753.out
     go_wp2
     go_meet
     case rel => exact ⟨_, (false), (by first | rfl | (simp; done) | (simp [*]; done)), H', ⟨by have := HJ1.out; first | omega | exact Nat.le_refl _⟩, ⟨by (with_reducible repeat (first | refine blk_drewN ?_ _ | refine blk_drew ?_ | refine blk_alloc ?_ _)); exact BK753.out⟩, ⟨by repeat (first | (with_reducible first | exact HB.out | apply below_alloc | apply pw_below_drewN | apply below_drew1 | refine below_set ?_ GE753.out) | exact HB.out)⟩⟩
    replace c21 := Bool.eq_false_iff.mpr c21
    subst c21
    have H1 : (if a0_8 = 0 then (crossbarref06_Right.j1 kj1 (decide ((l0_9.length : Int) > 0)) a0_0 false a0_2 a0_3 a0_4 a0_5 a0_6 l0_7 a0_8 l0_9 l0_10 a0_11) else (crossbarref06_Right.j1 kj1 true a0_0 false a0_2 a0_3 a0_4 a0_5 a0_6 l0_7 a0_8 l0_9 l0_10 a0_11)) = some r := by rw [if_neg (show ¬ (false = true) by decide)] at H; exact H
    clear H
    have H := H1
    clear H1
    by_cases c23 : a0_8 = 0
    ·rw [if_pos c23] at H
     have c23b0 : (a0_8 == 0) = true := beq_iff_eq.mpr c23
     have c23b1 : (a0_8 != 0) = false := bne_eq_false_iff_eq.mpr c23
     clear c23
     (first | rw [c23b0] | (simp only [i64_w, i32_w]; rw [c23b0]) | rw [c23b1] | skip)
     have H' := Aside0.mk H
     clear H
     obtain ⟨Z24_0, Z24_1, Z24_2, Z24_3, Z24_4, Z24_5, Z24_6, Z24_7, Z24_8, Z24_9, Z24_10, Z24_11, Y24_0, Y24_1, Y24_2, Y24_3, Y24_4, Y24_5, Y24_6, Y24_7, Y24_8, Y24_9, Y24_10, Y24_11⟩ := bc12 BK753.out
     go_wp2
     go_meet
     case rel => exact ⟨_, (decide ((l0_9.length : Int) > 0)), (by first | rfl | (simp; done) | (simp [*]; done)), H', ⟨by have := HJ1.out; first | omega | exact Nat.le_refl _⟩, ⟨by (with_reducible repeat (first | refine blk_drewN ?_ _ | refine blk_drew ?_ | refine blk_alloc ?_ _)); exact BK753.out⟩, ⟨by repeat (first | (with_reducible first | exact HB.out | apply below_alloc | apply pw_below_drewN | apply below_drew1 | refine below_set ?_ GE753.out) | exact HB.out)⟩⟩
    rw [if_neg c23] at H
    have c23b0 : (a0_8 == 0) = false := beq_eq_false_iff_ne.mpr c23
    have c23b1 : (a0_8 != 0) = true := bne_iff_ne.mpr c23
    (first | rw [c23b0] | (simp only [i64_w, i32_w]; rw [c23b0]) | rw [c23b1] | skip)
    have H' := Aside0.mk H
    clear H
    obtain ⟨Z25_0, Z25_1, Z25_2, Z25_3, Z25_4, Z25_5, Z25_6, Z25_7, Z25_8, Z25_9, Z25_10, Z25_11, Y25_0, Y25_1, Y25_2, Y25_3, Y25_4, Y25_5, Y25_6, Y25_7, Y25_8, Y25_9, Y25_10, Y25_11⟩ := bc12 BK753.out
    go_wp2
    go_meet
    case rel => exact ⟨_, (true), (by first | rfl | (simp; done) | (simp [*]; done)), H', ⟨by have := HJ1.out; first | omega | exact Nat.le_refl _⟩, ⟨by (with_reducible repeat (first | refine blk_drewN ?_ _ | refine blk_drew ?_ | refine blk_alloc ?_ _)); exact BK753.out⟩, ⟨by repeat (first | (with_reducible first | exact HB.out | apply below_alloc | apply pw_below_drewN | apply below_drew1 | refine below_set ?_ GE753.out) | exact HB.out)⟩⟩
   case rest =>
    clear HC20
    try clear c1
    try clear c2
    try clear p2
    try clear c3
    try clear c5
    try clear c6
    try clear c6b0
    try clear c6b1
    try clear c10
    try clear c10b0
    try clear c10b1
    try clear c19
    try clear c21
    try clear c23
    try clear c23b0
    try clear c23b1
    try clear Z11_0 Z11_1 Z11_10 Z11_11 Z11_2 Z11_3 Z11_4 Z11_5 Z11_6 Z11_7 Z11_8 Z11_9
    try clear Z13_0 Z13_1 Z13_10 Z13_11 Z13_2 Z13_3 Z13_4 Z13_5 Z13_6 Z13_7 Z13_8 Z13_9
    try clear Z14_0 Z14_1 Z14_10 Z14_11 Z14_2 Z14_3 Z14_4 Z14_5 Z14_6 Z14_7 Z14_8 Z14_9
    try clear Z16_0 Z16_1 Z16_10 Z16_11 Z16_2 Z16_3 Z16_4 Z16_5 Z16_6 Z16_7 Z16_8 Z16_9
    try clear Z17_0 Z17_1 Z17_10 Z17_11 Z17_2 Z17_3 Z17_4 Z17_5 Z17_6 Z17_7 Z17_8 Z17_9
    try clear Z22_0 Z22_1 Z22_10 Z22_11 Z22_2 Z22_3 Z22_4 Z22_5 Z22_6 Z22_7 Z22_8 Z22_9
    try clear Z24_0 Z24_1 Z24_10 Z24_11 Z24_2 Z24_3 Z24_4 Z24_5 Z24_6 Z24_7 Z24_8 Z24_9
    try clear Z25_0 Z25_1 Z25_10 Z25_11 Z25_2 Z25_3 Z25_4 Z25_5 Z25_6 Z25_7 Z25_8 Z25_9
    try clear Z7_0 Z7_1 Z7_10 Z7_11 Z7_2 Z7_3 Z7_4 Z7_5 Z7_6 Z7_7 Z7_8 Z7_9
    try clear Z9_0 Z9_1 Z9_10 Z9_11 Z9_2 Z9_3 Z9_4 Z9_5 Z9_6 Z9_7 Z9_8 Z9_9
    try clear Y11_0 Y11_1 Y11_10 Y11_11 Y11_2 Y11_3 Y11_4 Y11_5 Y11_6 Y11_7 Y11_8 Y11_9
    try clear Y13_0 Y13_1 Y13_10 Y13_11 Y13_2 Y13_3 Y13_4 Y13_5 Y13_6 Y13_7 Y13_8 Y13_9
    try clear Y14_0 Y14_1 Y14_10 Y14_11 Y14_2 Y14_3 Y14_4 Y14_5 Y14_6 Y14_7 Y14_8 Y14_9
    try clear Y16_0 Y16_1 Y16_10 Y16_11 Y16_2 Y16_3 Y16_4 Y16_5 Y16_6 Y16_7 Y16_8 Y16_9
    try clear Y17_0 Y17_1 Y17_10 Y17_11 Y17_2 Y17_3 Y17_4 Y17_5 Y17_6 Y17_7 Y17_8 Y17_9
    try clear Y22_0 Y22_1 Y22_10 Y22_11 Y22_2 Y22_3 Y22_4 Y22_5 Y22_6 Y22_7 Y22_8 Y22_9
    try clear Y24_0 Y24_1 Y24_10 Y24_11 Y24_2 Y24_3 Y24_4 Y24_5 Y24_6 Y24_7 Y24_8 Y24_9
    try clear Y25_0 Y25_1 Y25_10 Y25_11 Y25_2 Y25_3 Y25_4 Y25_5 Y25_6 Y25_7 Y25_8 Y25_9
    try clear Y7_0 Y7_1 Y7_10 Y7_11 Y7_2 Y7_3 Y7_4 Y7_5 Y7_6 Y7_7 Y7_8 Y7_9
    try clear Y9_0 Y9_1 Y9_10 Y9_11 Y9_2 Y9_3 Y9_4 Y9_5 Y9_6 Y9_7 Y9_8 Y9_9
    try clear p2
    obtain ⟨kq, x40_19, rfl, HA, HJ19, BK753, HB⟩ := hcut
    cases kq with
    | zero => exact absurd HA.out (by simp [crossbarref06_Right.j1])
    | succ kj19 =>
     have H := HA.out
     clear HA
     simp only [crossbarref06_Right.j1] at H
     by_cases c26 : x40_19 = true
     ·subst c26
      have H1 : (some false) = some r := by rw [if_pos rfl] at H; exact H
      clear H
      have H := H1
      clear H1
      obtain rfl := Option.some.inj H
      go_wp2
      go_ret
      exact ⟨by first | rfl | (simp [errW_none, errW_some] <;> rfl) | (simp [*, errW_none, errW_some] <;> rfl), by repeat (first | (with_reducible first | exact HB.out | apply below_alloc | apply pw_below_drewN | apply below_drew1 | refine below_set ?_ GE753.out) | exact HB.out)⟩
     replace c26 := Bool.eq_false_iff.mpr c26
     subst c26
     have H1 : (if a0_0 = true then (if a0_11 < 1 then (some false) else (if a0_11 > 255 then (some false) else ((crossbarref06_Size.f a0_0 a0_1 a0_2 a0_3 a0_4 a0_5 a0_6 l0_7 a0_8 l0_9 l0_10 a0_11).bind fun t755 => (some (decide (t755 ≤ 65535)))))) else (if a0_11 = 0 then ((crossbarref06_Size.f a0_0 a0_1 a0_2 a0_3 a0_4 a0_5 a0_6 l0_7 a0_8 l0_9 l0_10 a0_11).bind fun t756 => (some (decide (t756 ≤ 65535)))) else (some false))) = some r := by rw [if_neg (show ¬ (false = true) by decide)] at H; exact H
     clear H
     have H := H1
     clear H1
     by_cases c27 : a0_0 = true
     ·subst c27
      have H1 : (if a0_11 < 1 then (some false) else (if a0_11 > 255 then (some false) else ((crossbarref06_Size.f true a0_1 a0_2 a0_3 a0_4 a0_5 a0_6 l0_7 a0_8 l0_9 l0_10 a0_11).bind fun t755 => (some (decide (t755 ≤ 65535)))))) = some r := by rw [if_pos rfl] at H; exact H
      clear H
      have H := H1
      clear H1
      by_cases c28 : a0_11 < 1
      ·rw [if_pos c28] at H
       have c28b0 : decide (a0_11 < 1) = true := decide_eq_true c28
       clear c28
       obtain rfl := Option.some.inj H
       obtain ⟨Z29_0, Z29_1, Z29_2, Z29_3, Z29_4, Z29_5, Z29_6, Z29_7, Z29_8, Z29_9, Z29_10, Z29_11, Y29_0, Y29_1, Y29_2, Y29_3, Y29_4, Y29_5, Y29_6, Y29_7, Y29_8, Y29_9, Y29_10, Y29_11⟩ := bc12 BK753.out
       go_wp2
       go_ret
       exact ⟨by first | rfl | (simp [errW_none, errW_some] <;> rfl) | (simp [*, errW_none, errW_some] <;> rfl), by repeat (first | (with_reducible first | exact HB.out | apply below_alloc | apply pw_below_drewN | apply below_drew1 | refine below_set ?_ GE753.out) | exact HB.out)⟩
      rw [if_neg c28] at H
      have c28b0 : decide (a0_11 < 1) = false := decide_eq_false c28
      clear c28
      by_cases c30 : a0_11 > 255
      ·rw [if_pos c30] at H
       have c30b0 : decide (255 < a0_11) = true := decide_eq_true c30
       clear c30
       obtain rfl := Option.some.inj H
       obtain ⟨Z31_0, Z31_1, Z31_2, Z31_3, Z31_4, Z31_5, Z31_6, Z31_7, Z31_8, Z31_9, Z31_10, Z31_11, Y31_0, Y31_1, Y31_2, Y31_3, Y31_4, Y31_5, Y31_6, Y31_7, Y31_8, Y31_9, Y31_10, Y31_11⟩ := bc12 BK753.out
       go_wp2
       go_ret
       exact ⟨by first | rfl | (simp [errW_none, errW_some] <;> rfl) | (simp [*, errW_none, errW_some] <;> rfl), by repeat (first | (with_reducible first | exact HB.out | apply below_alloc | apply pw_below_drewN | apply below_drew1 | refine below_set ?_ GE753.out) | exact HB.out)⟩
      rw [if_neg c30] at H
      have c30b0 : decide (255 < a0_11) = false := decide_eq_false c30
      clear c30
      replace H := Option.bind_eq_some_iff.mp H
      obtain ⟨t755, A320, H⟩ := H
      replace H : (some (decide (t755 ≤ 65535))) = some r := H
      have A32 := Aside0.mk A320
      clear A320
      obtain rfl := Option.some.inj H
      obtain ⟨Z33_0, Z33_1, Z33_2, Z33_3, Z33_4, Z33_5, Z33_6, Z33_7, Z33_8, Z33_9, Z33_10, Z33_11, Y33_0, Y33_1, Y33_2, Y33_3, Y33_4, Y33_5, Y33_6, Y33_7, Y33_8, Y33_9, Y33_10, Y33_11⟩ := bc12 BK753.out
      go_wp2_with (first | ((with_reducible refine gate_callee (f := 24) rfl ?_); refine goesL_ (some 66) rfl rfl Try.func24 (by kernel_rfl) rfl #[.agg #[.bool true, .bool a0_1, .bool a0_2, .int .i64 a0_3, .int .u16 a0_4, .int .u32 a0_5, .int .u32 a0_6, .slice A0_7 l0_7.length c0_7, .int .u16 a0_8, .slice A0_9 l0_9.length c0_9, .slice A0_10 l0_10.length c0_10, .int .i64 a0_11]] rfl (by (try simp only [List.map_toArray, List.map_cons, List.map_nil]); first | done | rfl | (simp only [List.length_drop, List.length_take]; rfl)) ?_; (with_reducible refine (crossbarref06_Size.calls true a0_1 a0_2 a0_3 a0_4 a0_5 a0_6 _ _ l0_7 a0_8 _ _ l0_9 _ _ l0_10 a0_11 t755 _ ?side1 ?side2 ?side3 ?side4 ?side5 ?side6 A32.out).mono ?_); (case side1 => exact cbE HR0_7 HB); (case side2 => exact HC0_7.out); (case side3 => exact cbE HR0_9 HB); (case side4 => exact HC0_9.out); (case side5 => exact cbE HR0_10 HB); (case side6 => exact HC0_10.out); rintro e w34 ⟨rfl, hb⟩; refine ⟨_, rfl, ?_⟩; replace BK753 := bbE BK753 hb; replace HB := bstE HB hb; (try clear hb); (try clear hb2); (try clear hk); (try clear hi)))
      go_ret
      exact ⟨by first | rfl | (simp [errW_none, errW_some] <;> rfl) | (simp [*, errW_none, errW_some] <;> rfl), by repeat (first | (with_reducible first | exact HB.out | apply below_alloc | apply pw_below_drewN | apply below_drew1 | refine below_set ?_ GE753.out) | exact HB.out)⟩
     replace c27 := Bool.eq_false_iff.mpr c27
     subst c27
     have H1 : (if a0_11 = 0 then ((crossbarref06_Size.f false a0_1 a0_2 a0_3 a0_4 a0_5 a0_6 l0_7 a0_8 l0_9 l0_10 a0_11).bind fun t756 => (some (decide (t756 ≤ 65535)))) else (some false)) = some r := by rw [if_neg (show ¬ (false = true) by decide)] at H; exact H
     clear H
     have H := H1
     clear H1
     by_cases c35 : a0_11 = 0
     ·rw [if_pos c35] at H
      have c35b0 : (a0_11 == 0) = true := beq_iff_eq.mpr c35
      have c35b1 : (a0_11 != 0) = false := bne_eq_false_iff_eq.mpr c35
      clear c35
      replace H := Option.bind_eq_some_iff.mp H
      obtain ⟨t756, A360, H⟩ := H
      replace H : (some (decide (t756 ≤ 65535))) = some r := H
      have A36 := Aside0.mk A360
      clear A360
      obtain rfl := Option.some.inj H
      obtain ⟨Z37_0, Z37_1, Z37_2, Z37_3, Z37_4, Z37_5, Z37_6, Z37_7, Z37_8, Z37_9, Z37_10, Z37_11, Y37_0, Y37_1, Y37_2, Y37_3, Y37_4, Y37_5, Y37_6, Y37_7, Y37_8, Y37_9, Y37_10, Y37_11⟩ := bc12 BK753.out
      go_wp2_with (first | ((with_reducible refine gate_callee (f := 24) rfl ?_); refine goesL_ (some 66) rfl rfl Try.func24 (by kernel_rfl) rfl #[.agg #[.bool false, .bool a0_1, .bool a0_2, .int .i64 a0_3, .int .u16 a0_4, .int .u32 a0_5, .int .u32 a0_6, .slice A0_7 l0_7.length c0_7, .int .u16 a0_8, .slice A0_9 l0_9.length c0_9, .slice A0_10 l0_10.length c0_10, .int .i64 a0_11]] rfl (by (try simp only [List.map_toArray, List.map_cons, List.map_nil]); first | done | rfl | (simp only [List.length_drop, List.length_take]; rfl)) ?_; (with_reducible refine (crossbarref06_Size.calls false a0_1 a0_2 a0_3 a0_4 a0_5 a0_6 _ _ l0_7 a0_8 _ _ l0_9 _ _ l0_10 a0_11 t756 _ ?side1 ?side2 ?side3 ?side4 ?side5 ?side6 A36.out).mono ?_); (case side1 => exact cbE HR0_7 HB); (case side2 => exact HC0_7.out); (case side3 => exact cbE HR0_9 HB); (case side4 => exact HC0_9.out); (case side5 => exact cbE HR0_10 HB); (case side6 => exact HC0_10.out); rintro e w38 ⟨rfl, hb⟩; refine ⟨_, rfl, ?_⟩; replace BK753 := bbE BK753 hb; replace HB := bstE HB hb; (try clear hb); (try clear hb2); (try clear hk); (try clear hi)))
      go_ret
      exact ⟨by first | rfl | (simp [errW_none, errW_some] <;> rfl) | (simp [*, errW_none, errW_some] <;> rfl), by repeat (first | (with_reducible first | exact HB.out | apply below_alloc | apply pw_below_drewN | apply below_drew1 | refine below_set ?_ GE753.out) | exact HB.out)⟩
     rw [if_neg c35] at H
     have c35b0 : (a0_11 == 0) = false := beq_eq_false_iff_ne.mpr c35
     have c35b1 : (a0_11 != 0) = true := bne_iff_ne.mpr c35
     obtain rfl := Option.some.inj H
     obtain ⟨Z39_0, Z39_1, Z39_2, Z39_3, Z39_4, Z39_5, Z39_6, Z39_7, Z39_8, Z39_9, Z39_10, Z39_11, Y39_0, Y39_1, Y39_2, Y39_3, Y39_4, Y39_5, Y39_6, Y39_7, Y39_8, Y39_9, Y39_10, Y39_11⟩ := bc12 BK753.out
     go_wp2
     go_ret
     exact ⟨by first | rfl | (simp [errW_none, errW_some] <;> rfl) | (simp [*, errW_none, errW_some] <;> rfl), by repeat (first | (with_reducible first | exact HB.out | apply below_alloc | apply pw_below_drewN | apply below_drew1 | refine below_set ?_ GE753.out) | exact HB.out)⟩
mutual
def crossbarref01_Put.j0 : Nat → Int → Int → Bool → Option (List Int × Int)
 | 0, _, _, _ => none
 | k + 1, x0, x1, x13 => if x13 = true then (some (([] : List Int), 1)) else (if 0 ≤ x1 then (if (x1 : Int).toNat ≤ 281474976710656 then (crossbarref01_Put.l0 k x0 x1 (List.replicate (x1 : Int).toNat 0) 0) else (none)) else (none))
def crossbarref01_Put.l0 : Nat → Int → Int → List Int → Int → Option (List Int × Int)
 | 0, _, _, _, _ => none
 | k + 1, x0, x1, x6, x7 => if x7 < x1 then (if 0 ≤ (wrap64 ((wrap64 (x1 - 1)) - x7)) then (if (wrap64 ((wrap64 (x1 - 1)) - x7)) < (x6.length : Int) then (crossbarref01_Put.l0 k (IntKind.u64.wrap (Int.tdiv x0 256)) x1 (x6.set ((wrap64 ((wrap64 (x1 - 1)) - x7)) : Int).toNat ((Int.tmod x0 256) % 256)) (wrap64 (x7 + 1))) else (none)) else (none)) else (if x0 > 0 then (some (([] : List Int), 6)) else (some (x6, 0)))
end
def crossbarref01_Put.f (k : Nat) (a0 : Int) (a1 : Int) : Option (List Int × Int) := if a1 < 1 then (crossbarref01_Put.j0 k a0 a1 true) else (crossbarref01_Put.j0 k a0 a1 (decide (a1 > 8)))
set_option maxHeartbeats 8000000 in
set_option maxRecDepth 100000 in
theorem crossbarref01_Put.calls (k : Nat) (a0 : Int) (a1 : Int) (r1 : List Int) (r2 : Int) (w : World) (h : crossbarref01_Put.f k a0 a1 = some (r1, r2)) :
  Calls Try.prog 54 #[.int .u64 a0, .int .i64 a1] w fun e w' => ∃ v0_ : Value, e = .returned (.tuple #[v0_, .int .i64 r2]) ∧ Kd.R (Kd.int .u8) 5 w' w.heap.size (fun _ => True) v0_ r1 ∧ Below w.heap.size w w' := by
 have HB := Aside0.mk (Below.refl w.heap.size w)
 have H : (if a1 < 1 then (crossbarref01_Put.j0 k a0 a1 true) else (crossbarref01_Put.j0 k a0 a1 (decide (a1 > 8)))) = some (r1, r2) := h
 clear h
 have HC3 := Aside0.mk H
 clear H
 go_enter Try.func54, Try.ntmps54
 go_upto_region 1 with (fail)
 go_cut [13] (fun v13 wc => ∃ (kq : Nat) (x13_2 : Bool), v13 = .bool x13_2 ∧ Aside0 (crossbarref01_Put.j0 kq a0 a1 x13_2 = some (r1, r2)) ∧ Aside0 (kq ≤ k) ∧ Aside0 (Below w.heap.size w wc))
 case first =>
  have H := HC3.out
  clear HC3
  by_cases c4 : a1 < 1
  ·rw [if_pos c4] at H
   have c4b0 : decide (a1 < 1) = true := decide_eq_true c4
   clear c4
   (first | rw [c4b0] | (simp only [i64_w, i32_w]; rw [c4b0]) | skip)
   have H' := Aside0.mk H
   clear H
   go_wp2
   go_meet
   case rel => exact ⟨_, (true), (by first | rfl | (simp; done) | (simp [*]; done)), H', ⟨by first | omega | exact Nat.le_refl _⟩, ⟨by repeat (first | (with_reducible first | exact HB.out | apply below_alloc | apply pw_below_drewN | apply below_drew1) | exact HB.out)⟩⟩
  rw [if_neg c4] at H
  have c4b0 : decide (a1 < 1) = false := decide_eq_false c4
  clear c4
  (first | rw [c4b0] | (simp only [i64_w, i32_w]; rw [c4b0]) | skip)
  have H' := Aside0.mk H
  clear H
  go_wp2
  go_meet
  case rel => exact ⟨_, (decide (a1 > 8)), (by first | rfl | (simp; done) | (simp [*]; done)), H', ⟨by first | omega | exact Nat.le_refl _⟩, ⟨by repeat (first | (with_reducible first | exact HB.out | apply below_alloc | apply pw_below_drewN | apply below_drew1) | exact HB.out)⟩⟩
 case rest =>
  clear HC3
  try clear p2
  try clear c4
  try clear c4b0
  obtain ⟨kq, x13_2, rfl, HA, HJ2, HB⟩ := hcut
  cases kq with
  | zero => exact absurd HA.out (by simp [crossbarref01_Put.j0])
  | succ kj2 =>
   have H := HA.out
   clear HA
   simp only [crossbarref01_Put.j0] at H
   by_cases c5 : x13_2 = true
   ·subst c5
    have H1 : (some (([] : List Int), 1)) = some (r1, r2) := by rw [if_pos rfl] at H; exact H
    clear H
    have H := H1
    clear H1
    simp only [Option.some.injEq, Prod.mk.injEq] at H
    obtain ⟨rfl, rfl⟩ := H
    go_wp2
    go_ret2
    exact ⟨_, by first | rfl | (simp [errW_none, errW_some] <;> rfl) | (simp [*, errW_none, errW_some] <;> rfl), by first | exact Kd.R_nil _ _ _ _ _ | exact Kd.N_nil _ _ _ _ _ | exact Kd.V_nil _ _ _ _ _ | exact Kd.Q_nil _ _ _ _ _ | exact Kd.S_nil _ _ _ _ _, by repeat (first | (with_reducible first | exact HB.out | apply below_alloc | apply pw_below_drewN | apply below_drew1) | exact HB.out)⟩
   replace c5 := Bool.eq_false_iff.mpr c5
   subst c5
   have H1 : (if 0 ≤ a1 then (if (a1 : Int).toNat ≤ 281474976710656 then (crossbarref01_Put.l0 kj2 a0 a1 (List.replicate (a1 : Int).toNat 0) 0) else (none)) else (none)) = some (r1, r2) := by rw [if_neg (show ¬ (false = true) by decide)] at H; exact H
   clear H
   have H := H1
   clear H1
   by_cases c6 : 0 ≤ a1
   ·rw [if_pos c6] at H
    have c6b0 := eq_true c6
    have c6b1 : decide (0 ≤ a1) = true := decide_eq_true c6
    clear c6
    by_cases c7 : (a1 : Int).toNat ≤ 281474976710656
    ·rw [if_pos c7] at H
     have c7b0 := eq_true c7
     have c7b1 : decide ((a1 : Int).toNat ≤ 281474976710656) = true := decide_eq_true c7
     clear c7
     obtain ⟨y757, hy757⟩ : ∃ y_ : List Int, y_ = (List.replicate (a1 : Int).toNat 0) := ⟨_, rfl⟩
     replace H : (crossbarref01_Put.l0 kj2 a0 a1 y757 0) = some (r1, r2) := by first | (rw [hy757]; with_reducible exact H) | (have H2_ := (Option.bind_some _ _).symm.trans H; rw [hy757]; with_reducible exact H2_) | (have H2_ := (Option.bind_some _ _).symm.trans H; with_reducible exact H2_) | with_reducible exact H | (rw [hy757]; exact H) | exact H
     have Ny757 := Aside0.mk hy757
     clear hy757
     have H' := Aside0.mk H
     clear H
     go_wp2_with (first | ((with_reducible refine gate_dst (N := 15) rfl ?_); refine Kd.R_make (Kd.int .u8) _ 5 rfl (N := 15) rfl 22 _ _ rfl a1 rfl rfl Try.underlying22 (.int .u8 0) 1 info5 rfl (by decide) (by omega) 0 (ok := fun _ => True) (okp := fun _ => True) rfl (fun _ hk => hk) trivial (oT (by first | (with_reducible assumption) | assumption)) (Nat.le_trans (Nat.mul_le_mul_right _ (of_decide_eq_true (by first | (with_reducible assumption) | assumption) : a1.toNat ≤ 281474976710656)) (by omega)) (Below.refl _ _) (Nat.le_refl _) ?_; intro v758 w8 ho9 hb hg_ hnew_; clear hg_ hnew_; (first | rw [← Ny757.out] at ho9 | (simp only [Int.reduceToNat] at ho9; rw [← Ny757.out] at ho9)); have HO759 := Aside0.mk (Kd.R_lower ho9 (below_size (pB HB))); replace HB := bstE HB hb; clear hb ho9))
     go_loopg [0, 7] kj2 (fun kq v0 v7 w' => ∃ (x0_2 : Int) (x6_2 : List Int) (x7_2 : Int), v0 = .int .u64 x0_2 ∧ v7 = .int .i64 x7_2 ∧ Aside0 (crossbarref01_Put.l0 kq x0_2 a1 x6_2 x7_2 = some (r1, r2)) ∧ Aside0 (kq ≤ kj2) ∧ Aside0 (Kd.R (Kd.int .u8) 5 w' w.heap.size (fun _ => True) v758 x6_2) ∧ Aside0 (Below w.heap.size w w'))
     case atStart => exact ⟨(a0), (y757), (0), (by first | rfl | (simp; done) | (simp [*]; done)), (by first | rfl | (simp; done) | (simp [*]; done)), H', ⟨Nat.le_refl _⟩, ⟨by (with_reducible repeat (first | apply Kd.R_alloc | apply Kd.R_drewN | apply Kd.R_drew)); exact HO759.out⟩, ⟨by repeat (first | (with_reducible first | exact HB.out | apply below_alloc | apply pw_below_drewN | apply below_drew1) | exact HB.out)⟩⟩
     case round =>
      clear H'
      try clear p2
      try clear c4
      try clear c4b0
      try clear c5
      try clear c6
      try clear c6b0
      try clear c6b1
      try clear c7
      try clear c7b0
      try clear c7b1
      try clear p2
      obtain ⟨x0_2, x6_2, x7_2, rfl, rfl, HA, HK2, HO_6, HB⟩ := hrel
      cases gk with
      | zero => exact absurd HA.out (by simp [crossbarref01_Put.l0])
      | succ k2 =>
       have H := HA.out
       clear HA
       simp only [crossbarref01_Put.l0] at H
       by_cases c10 : x7_2 < a1
       ·rw [if_pos c10] at H
        have c10b0 : decide (x7_2 < a1) = true := decide_eq_true c10
        clear c10
        obtain ⟨ji11, hji11⟩ : ∃ j_ : Int, (wrap64 ((wrap64 (a1 - 1)) - x7_2)) = j_ := ⟨_, rfl⟩
        replace H : (if 0 ≤ (ji11) then (if (ji11) < (x6_2.length : Int) then (crossbarref01_Put.l0 k2 (IntKind.u64.wrap (Int.tdiv x0_2 256)) a1 (x6_2.set ((ji11) : Int).toNat ((Int.tmod x0_2 256) % 256)) (wrap64 (x7_2 + 1))) else (none)) else (none)) = some (r1, r2) := by first | (rw [hji11] at H; exact H) | (simp only [hji11] at H ⊢; exact H)
        have hji11w : (IntKind.i64.wrap ((wrap64 (a1 - 1)) - x7_2)) = ji11 := (i64_w _).trans hji11
        by_cases c12 : 0 ≤ (ji11)
        ·rw [if_pos c12] at H
         have c12b0 : decide (0 ≤ (ji11)) = true := decide_eq_true c12
         clear c12
         by_cases c13 : (ji11) < (x6_2.length : Int)
         ·rw [if_pos c13] at H
          have c13b0 : decide ((ji11) < (x6_2.length : Int)) = true := decide_eq_true c13
          clear c13
          obtain ⟨y760, hy760⟩ : ∃ y_ : List Int, y_ = (x6_2.set ((ji11) : Int).toNat ((Int.tmod x0_2 256) % 256)) := ⟨_, rfl⟩
          replace H : (crossbarref01_Put.l0 k2 (IntKind.u64.wrap (Int.tdiv x0_2 256)) a1 y760 (wrap64 (x7_2 + 1))) = some (r1, r2) := by first | (rw [hy760]; with_reducible exact H) | (have H2_ := (Option.bind_some _ _).symm.trans H; rw [hy760]; with_reducible exact H2_) | (have H2_ := (Option.bind_some _ _).symm.trans H; with_reducible exact H2_) | with_reducible exact H | (rw [hy760]; exact H) | exact H
          have Ny760 := Aside0.mk hy760
          clear hy760
          have H' := Aside0.mk H
          clear H
          have p14 : 0 ≤ ((ji11) : Int) := of_decide_eq_true (by first | (with_reducible assumption) | assumption)
          have q14 : ((ji11) : Int) < ((x6_2.length : Int) : Int) := of_decide_eq_true (by first | (with_reducible assumption) | assumption)
          obtain ⟨go14, co14, eo14, gb14, gl14, cl14, HG14⟩ := Kd.R_form HO_6.out (by omega)
          (first | cases eo14 | (injection eo14 with ea_ en_ ec_; (first | subst ea_ | (injection ea_ with ea_; subst ea_)); subst ec_; clear en_))
          have GB14 := Aside0.mk gb14
          have GG14 := Aside0.mk HG14
          clear gb14 gl14 HG14
          obtain ⟨hx14_0, hf14_0⟩ := Kd.R_celln 0 HO_6.out ((ji11) : Int) p14 q14
          replace p14 := eq_true p14
          replace q14 := eq_true q14
          have HP15 := Kd.R_putg HO_6.out ((ji11) : Int) ((Int.tmod x0_2 256) % 256)
          go_wp2_with (first | ((with_reducible refine gate_store (t := 5) (p := 29) rfl ?_); refine store_event (t := 5) (p := 29) (v := ?vo_w16) (w1 := (wr.setCell ⟨go14, ((ji11) : Int).toNat, none⟩ (.int .u8 ((Int.tmod x0_2 256) % 256)))) ?hg ?ho ?hn ?hr ?_; (case ho => rfl); (case hg => rfl); (case hn => rfl); (case hr => first | (go_simp; done) | (go_simp; rfl)); intro w16 hw; have hg : wr.grownBy w16 (some go14) := (by rw [hw]; exact HP15.2); have hp_ : Kd.R (Kd.int .u8) 5 w16 w.heap.size (fun _ => True) (.slice (some ⟨go14, 0, none⟩) x6_2.length co14) y760 := (by rw [hw, Ny760.out]; exact HP15.1); clear HP15; replace HO_6 := Aside0.mk (hp_); replace HB := Aside0.mk ((by rw [hw]; exact below_set (HB.out) GB14.out : Below w.heap.size w w16)); clear hg hw hp_))
          go_roundg k2
          case measure => have := HJ2.out; have := HK2.out; omega
          case rel => exact ⟨(IntKind.u64.wrap (Int.tdiv x0_2 256)), (y760), (wrap64 (x7_2 + 1)), (by first | rfl | (simp; done) | (simp [*]; done)), (by first | rfl | (simp; done) | (simp [*]; done)), H', ⟨by have := HJ2.out; have := HK2.out; omega⟩, ⟨by (with_reducible repeat (first | apply Kd.R_alloc | apply Kd.R_drewN | apply Kd.R_drew)); exact HO_6.out⟩, ⟨by repeat (first | (with_reducible first | exact HB.out | apply below_alloc | apply pw_below_drewN | apply below_drew1) | exact HB.out)⟩⟩
         rw [if_neg c13] at H
         exact absurd H (by simp)
        rw [if_neg c12] at H
        exact absurd H (by simp)
       rw [if_neg c10] at H
       have c10b0 : decide (x7_2 < a1) = false := decide_eq_false c10
       clear c10
       by_cases c17 : x0_2 > 0
       ·rw [if_pos c17] at H
        have c17b0 : decide (0 < x0_2) = true := decide_eq_true c17
        clear c17
        simp only [Option.some.injEq, Prod.mk.injEq] at H
        obtain ⟨rfl, rfl⟩ := H
        go_wp2
        go_ret2
        exact ⟨_, by first | rfl | (simp [errW_none, errW_some] <;> rfl) | (simp [*, errW_none, errW_some] <;> rfl), by first | exact Kd.R_nil _ _ _ _ _ | exact Kd.N_nil _ _ _ _ _ | exact Kd.V_nil _ _ _ _ _ | exact Kd.Q_nil _ _ _ _ _ | exact Kd.S_nil _ _ _ _ _, by repeat (first | (with_reducible first | exact HB.out | apply below_alloc | apply pw_below_drewN | apply below_drew1) | exact HB.out)⟩
       rw [if_neg c17] at H
       have c17b0 : decide (0 < x0_2) = false := decide_eq_false c17
       clear c17
       simp only [Option.some.injEq, Prod.mk.injEq] at H
       obtain ⟨rfl, rfl⟩ := H
       go_wp2
       go_ret2
       exact ⟨_, by first | rfl | (simp [errW_none, errW_some] <;> rfl) | (simp [*, errW_none, errW_some] <;> rfl), by (with_reducible repeat (first | apply Kd.R_alloc | apply Kd.R_drewN | apply Kd.R_drew)); exact HO_6.out, by repeat (first | (with_reducible first | exact HB.out | apply below_alloc | apply pw_below_drewN | apply below_drew1) | exact HB.out)⟩
    rw [if_neg c7] at H
    exact absurd H (by simp)
   rw [if_neg c6] at H
   exact absurd H (by simp)
def crossbarref01_Must.f (k : Nat) (a0 : Int) (a1 : Int) : Option (List Int) := (crossbarref01_Put.f k a0 a1).bind fun bt761 => (some bt761.1)
set_option maxHeartbeats 8000000 in
set_option maxRecDepth 100000 in
theorem crossbarref01_Must.calls (k : Nat) (a0 : Int) (a1 : Int) (r : List Int) (w : World) (h : crossbarref01_Must.f k a0 a1 = some r) :
  Calls Try.prog 40 #[.int .u64 a0, .int .i64 a1] w fun e w' => ∃ v0_ : Value, e = .returned (v0_) ∧ Kd.R (Kd.int .u8) 5 w' w.heap.size (fun _ => True) v0_ r ∧ Below w.heap.size w w' := by
 have HB := Aside0.mk (Below.refl w.heap.size w)
 have H : ((crossbarref01_Put.f k a0 a1).bind fun bt761 => (some bt761.1)) = some r := h
 clear h
 replace H := Option.bind_eq_some_iff.mp H
 obtain ⟨⟨t761, t762⟩, A30, H⟩ := H
 replace H : (some t761) = some r := H
 have A3 := Aside0.mk A30
 clear A30
 obtain rfl := Option.some.inj H
 go_enter Try.func40, Try.ntmps40
 go_wp2_with (first | ((with_reducible refine gate_callee (f := 54) rfl ?_); refine goesL_ (some 10) rfl rfl Try.func54 (by kernel_rfl) rfl #[.int .u64 a0, .int .i64 a1] rfl (by (try simp only [List.map_toArray, List.map_cons, List.map_nil]); first | done | rfl | (simp only [List.length_drop, List.length_take]; rfl)) ?_; (with_reducible refine (crossbarref01_Put.calls k a0 a1 t761 t762 _ A3.out).mono ?_); rintro e w4 ⟨v763, rfl, ho0, hb⟩; refine ⟨_, rfl, ?_⟩; have HO764 := Aside0.mk (Kd.R_lower ho0 (below_size (pB HB))); replace HB := bstE HB hb; (try clear hb); (try clear hb2); (try clear hk); (try clear hi); (try clear ho0)))
 go_ret
 exact ⟨_, by first | rfl | (simp [errW_none, errW_some] <;> rfl) | (simp [*, errW_none, errW_some] <;> rfl), by (with_reducible repeat (first | apply Kd.R_alloc | apply Kd.R_drewN | apply Kd.R_drew)); exact HO764.out, by repeat (first | (with_reducible first | exact HB.out | apply below_alloc | apply pw_below_drewN | apply below_drew1) | exact HB.out)⟩
mutual
def crossbarref05_Write.j0 : Nat → Int → Bool → Bool → Bool → Int → Int → Int → Int → List Int → Option (List Int)
 | 0, _, _, _, _, _, _, _, _, _ => none
 | k + 1, x3, x766000, x766001, x766002, x766003, x766004, x766005, x766006, x766007 => if x766001 = true then (crossbarref05_Write.j1 k (wrap64 (x3 + 16)) x766000 x766001 x766002 x766003 x766004 x766005 x766006 x766007) else (crossbarref05_Write.j1 k x3 x766000 x766001 x766002 x766003 x766004 x766005 x766006 x766007)
def crossbarref05_Write.j1 : Nat → Int → Bool → Bool → Bool → Int → Int → Int → Int → List Int → Option (List Int)
 | 0, _, _, _, _, _, _, _, _, _ => none
 | k + 1, x3, x766000, x766001, x766002, x766003, x766004, x766005, x766006, x766007 => if x766002 = true then (crossbarref05_Write.j2 k x3 (wrap64 (x766003 + 128)) x766000 x766001 x766002 x766003 x766004 x766005 x766006 x766007) else (crossbarref05_Write.j2 k x3 x766003 x766000 x766001 x766002 x766003 x766004 x766005 x766006 x766007)
def crossbarref05_Write.j2 : Nat → Int → Int → Bool → Bool → Bool → Int → Int → Int → Int → List Int → Option (List Int)
 | 0, _, _, _, _, _, _, _, _, _, _ => none
 | k + 1, x3, x4, x766000, x766001, x766002, x766003, x766004, x766005, x766006, x766007 => (some (([(x3) % 256, (x4) % 256] : List Int) : List Int)).bind fun y766 => ((crossbarref01_Must.f k (IntKind.u64.wrap (x766004)) 2).bind fun t769 => (if y766.length + t769.length < 140737488355328 then ((some (y766 ++ t769 : List Int)).bind fun y772 => ((crossbarref01_Must.f k (IntKind.u64.wrap (x766005)) 4).bind fun t775 => (if y772.length + t775.length < 140737488355328 then ((some (y772 ++ t775 : List Int)).bind fun y778 => ((crossbarref01_Must.f k (IntKind.u64.wrap (x766006)) 4).bind fun t781 => (if y778.length + t781.length < 140737488355328 then (crossbarref05_Write.l0 k (y778 ++ t781) 0 x766000 x766001 x766002 x766003 x766004 x766005 x766006 x766007) else (none)))) else (none)))) else (none)))
def crossbarref05_Write.l0 : Nat → List Int → Int → Bool → Bool → Bool → Int → Int → Int → Int → List Int → Option (List Int)
 | 0, _, _, _, _, _, _, _, _, _, _ => none
 | k + 1, x5, x6, x766000, x766001, x766002, x766003, x766004, x766005, x766006, x766007 => if x6 < (x766007.length : Int) then (if 0 ≤ x6 then ((crossbarref01_Must.f k (IntKind.u64.wrap (rd x766007 x6)) 4).bind fun t788 => (if x5.length + t788.length < 140737488355328 then (crossbarref05_Write.l0 k (x5 ++ t788) (wrap64 (x6 + 1)) x766000 x766001 x766002 x766003 x766004 x766005 x766006 x766007) else (none))) else (none)) else (some x5)
end
def crossbarref05_Write.f (k : Nat) (a0_0 : Bool) (a0_1 : Bool) (a0_2 : Bool) (a0_3 : Int) (a0_4 : Int) (a0_5 : Int) (a0_6 : Int) (l0_7 : List Int) : Option (List Int) := if a0_0 = true then (crossbarref05_Write.j0 k (wrap64 ((wrap64 (128 + (l0_7.length : Int))) + 32)) a0_0 a0_1 a0_2 a0_3 a0_4 a0_5 a0_6 l0_7) else (crossbarref05_Write.j0 k (wrap64 (128 + (l0_7.length : Int))) a0_0 a0_1 a0_2 a0_3 a0_4 a0_5 a0_6 l0_7)
set_option maxHeartbeats 8000000 in
set_option maxRecDepth 100000 in
theorem crossbarref05_Write.calls (k : Nat) (a0_0 : Bool) (a0_1 : Bool) (a0_2 : Bool) (a0_3 : Int) (a0_4 : Int) (a0_5 : Int) (a0_6 : Int) (A0_7 : Option Addr) (c0_7 : Nat) (l0_7 : List Int) (r : List Int) (w : World) (hr0_7 : Kd.C (Kd.int .u32) w A0_7 l0_7.length l0_7) (hc0_7 : l0_7.length ≤ c0_7) (h : crossbarref05_Write.f k a0_0 a0_1 a0_2 a0_3 a0_4 a0_5 a0_6 l0_7 = some r) :
  Calls Try.prog 39 #[.agg #[.bool a0_0, .bool a0_1, .bool a0_2, .int .i64 a0_3, .int .u16 a0_4, .int .u32 a0_5, .int .u32 a0_6, .slice A0_7 l0_7.length c0_7]] w fun e w' => ∃ v0_ : Value, e = .returned (v0_) ∧ Kd.R (Kd.int .u8) 5 w' w.heap.size (fun _ => True) v0_ r ∧ Below w.heap.size w w' := by
 have hu43 := Try.underlying43
 have HR0_7 := Aside0.mk hr0_7
 have HC0_7 := Aside0.mk hc0_7
 clear hr0_7 hc0_7
 have HB := Aside0.mk (Below.refl w.heap.size w)
 have H : (if a0_0 = true then (crossbarref05_Write.j0 k (wrap64 ((wrap64 (128 + (l0_7.length : Int))) + 32)) a0_0 a0_1 a0_2 a0_3 a0_4 a0_5 a0_6 l0_7) else (crossbarref05_Write.j0 k (wrap64 (128 + (l0_7.length : Int))) a0_0 a0_1 a0_2 a0_3 a0_4 a0_5 a0_6 l0_7)) = some r := h
 clear h
 have HC2 := Aside0.mk H
 clear H
 go_enter Try.func39, Try.ntmps39
 go_upto_if 12 with (first | ((with_reducible refine gate_dst (N := 1) rfl ?_); refine box_event ?hg (N := 1) ?hd (cs := #[.bool a0_0, .bool a0_1, .bool a0_2, .int .i64 a0_3, .int .u16 a0_4, .int .u32 a0_5, .int .u32 a0_6, .slice A0_7 l0_7.length c0_7]) (t := 43) ?hr ?_; (case hd => rfl); (case hg => rfl); (case hr => first | (go_simp; done) | (go_simp; rfl)); intro gb765 hg w3 hbox hb; have n0_ := bstE HB hb; have BK765 := Aside0.mk (hbox); have GW765 := geE hg HB; have GE765 := geE hg HB; clear HB; have HB := n0_; clear n0_; clear hb hbox hg; obtain ⟨Z4_0, Z4_1, Z4_2, Z4_3, Z4_4, Z4_5, Z4_6, Z4_7, Y4_0, Y4_1, Y4_2, Y4_3, Y4_4, Y4_5, Y4_6, Y4_7⟩ := bc8 BK765.out))
 (try simp only [Act.put, List.setIfInBounds_toArray, List.set_cons_zero, List.set_cons_succ])
 go_cut [3] (fun v3 wc => ∃ (kq : Nat) (x3_1 : Int), v3 = .int .i64 x3_1 ∧ Aside0 (crossbarref05_Write.j0 kq x3_1 a0_0 a0_1 a0_2 a0_3 a0_4 a0_5 a0_6 l0_7 = some r) ∧ Aside0 (kq ≤ k) ∧ Aside0 (wc.heap[gb765]? = some (.cells #[.bool a0_0, .bool a0_1, .bool a0_2, .int .i64 a0_3, .int .u16 a0_4, .int .u32 a0_5, .int .u32 a0_6, (.slice A0_7 l0_7.length c0_7)] 43 (0, 0))) ∧ Aside0 (Below w.heap.size w wc))
 case first =>
  have H := HC2.out
  clear HC2
  by_cases c5 : a0_0 = true
  ·subst c5
   have H1 : (crossbarref05_Write.j0 k (wrap64 ((wrap64 (128 + (l0_7.length : Int))) + 32)) true a0_1 a0_2 a0_3 a0_4 a0_5 a0_6 l0_7) = some r := by rw [if_pos rfl] at H; exact H
   clear H
   have H := H1
   clear H1
   have H' := Aside0.mk H
   clear H
   go_wp2
   go_meet
   case rel => exact ⟨_, (wrap64 ((wrap64 (128 + (l0_7.length : Int))) + 32)), (by first | rfl | (simp; done) | (simp [*]; done)), H', ⟨by first | omega | exact Nat.le_refl _⟩, ⟨by (with_reducible repeat (first | refine blk_drewN ?_ _ | refine blk_drew ?_ | refine blk_alloc ?_ _)); exact BK765.out⟩, ⟨by repeat (first | (with_reducible first | exact HB.out | apply below_alloc | apply pw_below_drewN | apply below_drew1 | refine below_set ?_ GE765.out) | exact HB.out)⟩⟩
  replace c5 := Bool.eq_false_iff.mpr c5
  subst c5
  have H1 : (crossbarref05_Write.j0 k (wrap64 (128 + (l0_7.length : Int))) false a0_1 a0_2 a0_3 a0_4 a0_5 a0_6 l0_7) = some r := by rw [if_neg (show ¬ (false = true) by decide)] at H; exact H
  clear H
  have H := H1
  clear H1
  have H' := Aside0.mk H
  clear H
  go_wp2
  go_meet
  case rel => exact ⟨_, (wrap64 (128 + (l0_7.length : Int))), (by first | rfl | (simp; done) | (simp [*]; done)), H', ⟨by first | omega | exact Nat.le_refl _⟩, ⟨by (with_reducible repeat (first | refine blk_drewN ?_ _ | refine blk_drew ?_ | refine blk_alloc ?_ _)); exact BK765.out⟩, ⟨by repeat (first | (with_reducible first | exact HB.out | apply below_alloc | apply pw_below_drewN | apply below_drew1 | refine below_set ?_ GE765.out) | exact HB.out)⟩⟩
 case rest =>
  clear HC2
  try clear p2
  try clear c3
  try clear c5
  try clear Z4_0 Z4_1 Z4_2 Z4_3 Z4_4 Z4_5 Z4_6 Z4_7 Y4_0 Y4_1 Y4_2 Y4_3 Y4_4 Y4_5 Y4_6 Y4_7
  obtain ⟨kq, x3_1, rfl, HA, HJ1, BK765, HB⟩ := hcut
  cases kq with
  | zero => exact absurd HA.out (by simp [crossbarref05_Write.j0])
  | succ kj1 =>
   have H := HA.out
   clear HA
   simp only [crossbarref05_Write.j0] at H
   have HC6 := Aside0.mk H
   clear H
   obtain ⟨Z7_0, Z7_1, Z7_2, Z7_3, Z7_4, Z7_5, Z7_6, Z7_7, Y7_0, Y7_1, Y7_2, Y7_3, Y7_4, Y7_5, Y7_6, Y7_7⟩ := bc8 BK765.out
   go_upto_if 16 with (fail)
   go_cut [3] (fun v3 wc => ∃ (kq : Nat) (x3_5 : Int), v3 = .int .i64 x3_5 ∧ Aside0 (crossbarref05_Write.j1 kq x3_5 a0_0 a0_1 a0_2 a0_3 a0_4 a0_5 a0_6 l0_7 = some r) ∧ Aside0 (kq ≤ kj1) ∧ Aside0 (wc.heap[gb765]? = some (.cells #[.bool a0_0, .bool a0_1, .bool a0_2, .int .i64 a0_3, .int .u16 a0_4, .int .u32 a0_5, .int .u32 a0_6, (.slice A0_7 l0_7.length c0_7)] 43 (0, 0))) ∧ Aside0 (Below w.heap.size w wc))
   case first =>
    have H := HC6.out
    clear HC6
    by_cases c8 : a0_1 = true
    ·subst c8
     have H1 : (crossbarref05_Write.j1 kj1 (wrap64 (x3_1 + 16)) a0_0 true a0_2 a0_3 a0_4 a0_5 a0_6 l0_7) = some r := by rw [if_pos rfl] at H; exact H
     clear H
     have H := H1
     clear H1
     have H' := Aside0.mk H
     clear H
     go_wp2
     go_meet
     case rel => exact ⟨_, (wrap64 (x3_1 + 16)), (by first | rfl | (simp; done) | (simp [*]; done)), H', ⟨by have := HJ1.out; first | omega | exact Nat.le_refl _⟩, ⟨by (with_reducible repeat (first | refine blk_drewN ?_ _ | refine blk_drew ?_ | refine blk_alloc ?_ _)); exact BK765.out⟩, ⟨by repeat (first | (with_reducible first | exact HB.out | apply below_alloc | apply pw_below_drewN | apply below_drew1 | refine below_set ?_ GE765.out) | exact HB.out)⟩⟩
    replace c8 := Bool.eq_false_iff.mpr c8
    subst c8
    have H1 : (crossbarref05_Write.j1 kj1 x3_1 a0_0 false a0_2 a0_3 a0_4 a0_5 a0_6 l0_7) = some r := by rw [if_neg (show ¬ (false = true) by decide)] at H; exact H
    clear H
    have H := H1
    clear H1
    have H' := Aside0.mk H
    clear H
    go_wp2
    go_meet
    case rel => exact ⟨_, (x3_1), (by first | rfl | (simp; done) | (simp [*]; done)), H', ⟨by have := HJ1.out; first | omega | exact Nat.le_refl _⟩, ⟨by (with_reducible repeat (first | refine blk_drewN ?_ _ | refine blk_drew ?_ | refine blk_alloc ?_ _)); exact BK765.out⟩, ⟨by repeat (first | (with_reducible first | exact HB.out | apply below_alloc | apply pw_below_drewN | apply below_drew1 | refine below_set ?_ GE765.out) | exact HB.out)⟩⟩
   case rest =>
    clear HC6
    try clear p2
    try clear c3
    try clear c5
    try clear p6
    try clear c8
    try clear Z4_0 Z4_1 Z4_2 Z4_3 Z4_4 Z4_5 Z4_6 Z4_7
    try clear Z7_0 Z7_1 Z7_2 Z7_3 Z7_4 Z7_5 Z7_6 Z7_7
    try clear Y4_0 Y4_1 Y4_2 Y4_3 Y4_4 Y4_5 Y4_6 Y4_7
    try clear Y7_0 Y7_1 Y7_2 Y7_3 Y7_4 Y7_5 Y7_6 Y7_7
    try clear p2
    obtain ⟨kq, x3_5, rfl, HA, HJ5, BK765, HB⟩ := hcut
    cases kq with
    | zero => exact absurd HA.out (by simp [crossbarref05_Write.j1])
    | succ kj5 =>
     have H := HA.out
     clear HA
     simp only [crossbarref05_Write.j1] at H
     have HC9 := Aside0.mk H
     clear H
     obtain ⟨Z10_0, Z10_1, Z10_2, Z10_3, Z10_4, Z10_5, Z10_6, Z10_7, Y10_0, Y10_1, Y10_2, Y10_3, Y10_4, Y10_5, Y10_6, Y10_7⟩ := bc8 BK765.out
     go_upto_if 22 with (fail)
     go_cut [4] (fun v4 wc => ∃ (kq : Nat) (x4_8 : Int), v4 = .int .i64 x4_8 ∧ Aside0 (crossbarref05_Write.j2 kq x3_5 x4_8 a0_0 a0_1 a0_2 a0_3 a0_4 a0_5 a0_6 l0_7 = some r) ∧ Aside0 (kq ≤ kj5) ∧ Aside0 (wc.heap[gb765]? = some (.cells #[.bool a0_0, .bool a0_1, .bool a0_2, .int .i64 a0_3, .int .u16 a0_4, .int .u32 a0_5, .int .u32 a0_6, (.slice A0_7 l0_7.length c0_7)] 43 (0, 0))) ∧ Aside0 (Below w.heap.size w wc))
     case first =>
      have H := HC9.out
      clear HC9
      by_cases c11 : a0_2 = true
      ·subst c11
       have H1 : (crossbarref05_Write.j2 kj5 x3_5 (wrap64 (a0_3 + 128)) a0_0 a0_1 true a0_3 a0_4 a0_5 a0_6 l0_7) = some r := by rw [if_pos rfl] at H; exact H
       clear H
       have H := H1
       clear H1
       have H' := Aside0.mk H
       clear H
       go_wp2
       go_meet
       case rel => exact ⟨_, (wrap64 (a0_3 + 128)), (by first | rfl | (simp; done) | (simp [*]; done)), H', ⟨by have := HJ1.out; have := HJ5.out; first | omega | exact Nat.le_refl _⟩, ⟨by (with_reducible repeat (first | refine blk_drewN ?_ _ | refine blk_drew ?_ | refine blk_alloc ?_ _)); exact BK765.out⟩, ⟨by repeat (first | (with_reducible first | exact HB.out | apply below_alloc | apply pw_below_drewN | apply below_drew1 | refine below_set ?_ GE765.out) | exact HB.out)⟩⟩
      replace c11 := Bool.eq_false_iff.mpr c11
      subst c11
      have H1 : (crossbarref05_Write.j2 kj5 x3_5 a0_3 a0_0 a0_1 false a0_3 a0_4 a0_5 a0_6 l0_7) = some r := by rw [if_neg (show ¬ (false = true) by decide)] at H; exact H
      clear H
      have H := H1
      clear H1
      have H' := Aside0.mk H
      clear H
      go_wp2
      go_meet
      case rel => exact ⟨_, (a0_3), (by first | rfl | (simp; done) | (simp [*]; done)), H', ⟨by have := HJ1.out; have := HJ5.out; first | omega | exact Nat.le_refl _⟩, ⟨by (with_reducible repeat (first | refine blk_drewN ?_ _ | refine blk_drew ?_ | refine blk_alloc ?_ _)); exact BK765.out⟩, ⟨by repeat (first | (with_reducible first | exact HB.out | apply below_alloc | apply pw_below_drewN | apply below_drew1 | refine below_set ?_ GE765.out) | exact HB.out)⟩⟩
     case rest =>
      clear HC9
      try clear c1
      try clear p2
      try clear c3
      try clear c5
      try clear p6
      try clear c8
      try clear c11
      try clear Z10_0 Z10_1 Z10_2 Z10_3 Z10_4 Z10_5 Z10_6 Z10_7
      try clear Z4_0 Z4_1 Z4_2 Z4_3 Z4_4 Z4_5 Z4_6 Z4_7
      try clear Z7_0 Z7_1 Z7_2 Z7_3 Z7_4 Z7_5 Z7_6 Z7_7
      try clear Y10_0 Y10_1 Y10_2 Y10_3 Y10_4 Y10_5 Y10_6 Y10_7
      try clear Y4_0 Y4_1 Y4_2 Y4_3 Y4_4 Y4_5 Y4_6 Y4_7
      try clear Y7_0 Y7_1 Y7_2 Y7_3 Y7_4 Y7_5 Y7_6 Y7_7
      try clear p2
      try clear p6
      obtain ⟨kq, x4_8, rfl, HA, HJ8, BK765, HB⟩ := hcut
      cases kq with
      | zero => exact absurd HA.out (by simp [crossbarref05_Write.j2])
      | succ kj8 =>
       have H := HA.out
       clear HA
       simp only [crossbarref05_Write.j2] at H
       obtain ⟨y766, hy766⟩ : ∃ y_ : List Int, y_ = (([(x3_5) % 256, (x4_8) % 256] : List Int)) := ⟨_, rfl⟩
       replace H : ((crossbarref01_Must.f kj8 (IntKind.u64.wrap (a0_4)) 2).bind fun t769 => (if y766.length + t769.length < 140737488355328 then ((some (y766 ++ t769 : List Int)).bind fun y772 => ((crossbarref01_Must.f kj8 (IntKind.u64.wrap (a0_5)) 4).bind fun t775 => (if y772.length + t775.length < 140737488355328 then ((some (y772 ++ t775 : List Int)).bind fun y778 => ((crossbarref01_Must.f kj8 (IntKind.u64.wrap (a0_6)) 4).bind fun t781 => (if y778.length + t781.length < 140737488355328 then (crossbarref05_Write.l0 kj8 (y778 ++ t781) 0 a0_0 a0_1 a0_2 a0_3 a0_4 a0_5 a0_6 l0_7) else (none)))) else (none)))) else (none))) = some r := by first | (rw [hy766]; with_reducible exact H) | (have H2_ := (Option.bind_some _ _).symm.trans H; rw [hy766]; with_reducible exact H2_) | (have H2_ := (Option.bind_some _ _).symm.trans H; with_reducible exact H2_) | with_reducible exact H | (rw [hy766]; exact H) | exact H
       have Ny766 := Aside0.mk hy766
       clear hy766
       replace H := Option.bind_eq_some_iff.mp H
       obtain ⟨t769, A120, H⟩ := H
       replace H : (if y766.length + t769.length < 140737488355328 then ((some (y766 ++ t769 : List Int)).bind fun y772 => ((crossbarref01_Must.f kj8 (IntKind.u64.wrap (a0_5)) 4).bind fun t775 => (if y772.length + t775.length < 140737488355328 then ((some (y772 ++ t775 : List Int)).bind fun y778 => ((crossbarref01_Must.f kj8 (IntKind.u64.wrap (a0_6)) 4).bind fun t781 => (if y778.length + t781.length < 140737488355328 then (crossbarref05_Write.l0 kj8 (y778 ++ t781) 0 a0_0 a0_1 a0_2 a0_3 a0_4 a0_5 a0_6 l0_7) else (none)))) else (none)))) else (none)) = some r := H
       have A12 := Aside0.mk A120
       clear A120
       by_cases c13 : y766.length + t769.length < 140737488355328
       ·rw [if_pos c13] at H
        have LMc13 := Aside0.mk c13
        clear c13
        obtain ⟨y772, hy772⟩ : ∃ y_ : List Int, y_ = (y766 ++ t769) := ⟨_, rfl⟩
        replace H : ((crossbarref01_Must.f kj8 (IntKind.u64.wrap (a0_5)) 4).bind fun t775 => (if y772.length + t775.length < 140737488355328 then ((some (y772 ++ t775 : List Int)).bind fun y778 => ((crossbarref01_Must.f kj8 (IntKind.u64.wrap (a0_6)) 4).bind fun t781 => (if y778.length + t781.length < 140737488355328 then (crossbarref05_Write.l0 kj8 (y778 ++ t781) 0 a0_0 a0_1 a0_2 a0_3 a0_4 a0_5 a0_6 l0_7) else (none)))) else (none))) = some r := by first | (rw [hy772]; with_reducible exact H) | (have H2_ := (Option.bind_some _ _).symm.trans H; rw [hy772]; with_reducible exact H2_) | (have H2_ := (Option.bind_some _ _).symm.trans H; with_reducible exact H2_) | with_reducible exact H | (rw [hy772]; exact H) | exact H
        have Ny772 := Aside0.mk hy772
        clear hy772
        replace H := Option.bind_eq_some_iff.mp H
        obtain ⟨t775, A140, H⟩ := H
        replace H : (if y772.length + t775.length < 140737488355328 then ((some (y772 ++ t775 : List Int)).bind fun y778 => ((crossbarref01_Must.f kj8 (IntKind.u64.wrap (a0_6)) 4).bind fun t781 => (if y778.length + t781.length < 140737488355328 then (crossbarref05_Write.l0 kj8 (y778 ++ t781) 0 a0_0 a0_1 a0_2 a0_3 a0_4 a0_5 a0_6 l0_7) else (none)))) else (none)) = some r := H
        have A14 := Aside0.mk A140
        clear A140
        by_cases c15 : y772.length + t775.length < 140737488355328
        ·rw [if_pos c15] at H
         have LMc15 := Aside0.mk c15
         clear c15
         obtain ⟨y778, hy778⟩ : ∃ y_ : List Int, y_ = (y772 ++ t775) := ⟨_, rfl⟩
         replace H : ((crossbarref01_Must.f kj8 (IntKind.u64.wrap (a0_6)) 4).bind fun t781 => (if y778.length + t781.length < 140737488355328 then (crossbarref05_Write.l0 kj8 (y778 ++ t781) 0 a0_0 a0_1 a0_2 a0_3 a0_4 a0_5 a0_6 l0_7) else (none))) = some r := by first | (rw [hy778]; with_reducible exact H) | (have H2_ := (Option.bind_some _ _).symm.trans H; rw [hy778]; with_reducible exact H2_) | (have H2_ := (Option.bind_some _ _).symm.trans H; with_reducible exact H2_) | with_reducible exact H | (rw [hy778]; exact H) | exact H
         have Ny778 := Aside0.mk hy778
         clear hy778
         replace H := Option.bind_eq_some_iff.mp H
         obtain ⟨t781, A160, H⟩ := H
         replace H : (if y778.length + t781.length < 140737488355328 then (crossbarref05_Write.l0 kj8 (y778 ++ t781) 0 a0_0 a0_1 a0_2 a0_3 a0_4 a0_5 a0_6 l0_7) else (none)) = some r := H
         have A16 := Aside0.mk A160
         clear A160
         by_cases c17 : y778.length + t781.length < 140737488355328
         ·rw [if_pos c17] at H
          have LMc17 := Aside0.mk c17
          clear c17
          obtain ⟨y784, hy784⟩ : ∃ y_ : List Int, y_ = (y778 ++ t781) := ⟨_, rfl⟩
          replace H : (crossbarref05_Write.l0 kj8 y784 0 a0_0 a0_1 a0_2 a0_3 a0_4 a0_5 a0_6 l0_7) = some r := by first | (rw [hy784]; with_reducible exact H) | (have H2_ := (Option.bind_some _ _).symm.trans H; rw [hy784]; with_reducible exact H2_) | (have H2_ := (Option.bind_some _ _).symm.trans H; with_reducible exact H2_) | with_reducible exact H | (rw [hy784]; exact H) | exact H
          have Ny784 := Aside0.mk hy784
          clear hy784
          have H' := Aside0.mk H
          clear H
          go_wp2_with (first | ((with_reducible refine gate_dst (N := 29) rfl ?_); refine Kd.R_lit (Kd.int .u8) _ 5 ?hg (N := 29) ?hd (xs := ([(x3_5) % 256, (x4_8) % 256] : List Int)) (inner := [.int .u8 ((x3_5) % 256), .int .u8 ((x4_8) % 256)]) (ok := fun _ => True) (okp := fun _ => True) ?hr ?hp (fun _ hk => hk) trivial (Below.refl _ _) (Nat.le_refl _) (by simp) ?_; (case hd => rfl); (case hg => rfl); (case hr => first | (go_simp; done) | (go_simp; rfl)); (case hp => exact (Reps.one (show Kd.M (Kd.int .u8) _ _ _ ((x3_5) % 256) [.int .u8 ((x3_5) % 256)] from rfl) (Reps.one (show Kd.M (Kd.int .u8) _ _ _ ((x4_8) % 256) [.int .u8 ((x4_8) % 256)] from rfl) (Reps.none _ _)))); intro v767 w18 ho19 hb hg_ hnew_; clear hg_ hnew_; (first | rw [← Ny766.out] at ho19 | (simp only [Int.reduceToNat] at ho19; rw [← Ny766.out] at ho19)); have HO768 := Aside0.mk (Kd.R_lower ho19 (below_size (pB HB))); replace BK765 := bbE BK765 hb; replace HB := bstE HB hb; clear hb ho19; obtain ⟨Z20_0, Z20_1, Z20_2, Z20_3, Z20_4, Z20_5, Z20_6, Z20_7, Y20_0, Y20_1, Y20_2, Y20_3, Y20_4, Y20_5, Y20_6, Y20_7⟩ := bc8 BK765.out) | ((with_reducible refine gate_callee (f := 40) rfl ?_); refine goesL_ (some 34) rfl rfl Try.func40 (by kernel_rfl) rfl #[.int .u64 (IntKind.u64.wrap (a0_4)), .int .i64 2] rfl (by (try simp only [List.map_toArray, List.map_cons, List.map_nil]); first | done | rfl | (simp only [List.length_drop, List.length_take]; rfl)) ?_; (with_reducible refine (crossbarref01_Must.calls kj8 (IntKind.u64.wrap (a0_4)) 2 t769 _ A12.out).mono ?_); rintro e w21 ⟨v770, rfl, ho0, hb⟩; refine ⟨_, rfl, ?_⟩; have n0_ := Aside0.mk (Kd.R_elder' (pR HO768) (Kd.R_base ho0) hb); have HO771 := Aside0.mk (Kd.R_lower (Kd.R_new' ho0 (Kd.R_lt (pR HO768))) (below_size (pB HB))); replace BK765 := bbE BK765 hb; replace HB := bstE HB hb; clear HO768; have HO768 := n0_; clear n0_; (try clear hb); (try clear hb2); (try clear hk); (try clear hi); (try clear ho0); obtain ⟨Ao23, co23, eo23⟩ := Kd.R_slice HO771.out; subst eo23) | ((with_reducible refine gate_builtin (b := .append) (xs := #[.tmp 30, .tmp 34]) rfl ?_); at_builtin; refine Kd.R_append_rows (Kd.int .u8) (w0 := w) w.heap.size rfl (.tmp 30) (.tmp 34) 22 5 (.int .u8 0) 1 rfl Try.underlying22 info5 rfl (by decide) (by omega) v767 y766 t769 _ _ _ (fun k_ => some k_ ≠ (.slice Ao23 t769.length co23 : Value).ownBlock) (fun _ => False) rfl rfl ?aO ?aR (fun _ _ h => h) (fun _ h => h.elim) ?aF ?aB ?aS ?aL ?_; (case aR => exact cE (Kd.R_reads' HO771.out).2.2); (case aB => exact (pB HB)); (case aF => exact (fun k_ hk => Kd.fresh' (Kd.R_lt (pR HO771)) k_ hk)); (case aO => exact (by (with_reducible repeat (first | apply Kd.R_alloc | apply Kd.R_drewN | apply Kd.R_drew)); exact Kd.R_mono HO768.out (fun _ hk => hk.2))); (case aS => exact (below_size (pB HB))); (case aL => have := LMc13.out; omega); intro v773 w22 ho hb hg hat; rw [← Ny772.out] at ho; replace BK765 := Aside0.mk (blk_grown (g := gb765) (o := .cells #[.bool a0_0, .bool a0_1, .bool a0_2, .int .i64 a0_3, .int .u16 a0_4, .int .u32 a0_5, .int .u32 a0_6, .slice A0_7 l0_7.length c0_7] 43 (0, 0)) (pk BK765) hg (Kd.R_ne HO768.out BK765.out (by decide))); replace HO771 := Aside0.mk (Kd.R_after (ok := (fun _ => True)) (pR HO771) hg hat); replace HB := Aside0.mk (hb); have HO774 := Aside0.mk (ho); clear HO768; clear ho hb hg hat; obtain ⟨Z24_0, Z24_1, Z24_2, Z24_3, Z24_4, Z24_5, Z24_6, Z24_7, Y24_0, Y24_1, Y24_2, Y24_3, Y24_4, Y24_5, Y24_6, Y24_7⟩ := bc8 BK765.out) | ((with_reducible refine gate_callee (f := 40) rfl ?_); refine goesL_ (some 40) rfl rfl Try.func40 (by kernel_rfl) rfl #[.int .u64 (IntKind.u64.wrap (a0_5)), .int .i64 4] rfl (by (try simp only [List.map_toArray, List.map_cons, List.map_nil]); first | done | rfl | (simp only [List.length_drop, List.length_take]; rfl)) ?_; (with_reducible refine (crossbarref01_Must.calls kj8 (IntKind.u64.wrap (a0_5)) 4 t775 _ A14.out).mono ?_); rintro e w25 ⟨v776, rfl, ho0, hb⟩; refine ⟨_, rfl, ?_⟩; have n0_ := Aside0.mk (Kd.R_elder' (pR HO771) (Kd.R_base ho0) hb); have n1_ := Aside0.mk (Kd.R_elder' (pR HO774) (Kd.R_base ho0) hb); have HO777 := Aside0.mk (Kd.R_lower (Kd.R_new' (Kd.R_new' ho0 (Kd.R_lt (pR HO771))) (Kd.R_lt (pR HO774))) (below_size (pB HB))); replace BK765 := bbE BK765 hb; replace HB := bstE HB hb; clear HO771; clear HO774; have HO771 := n0_; have HO774 := n1_; clear n0_ n1_; (try clear hb); (try clear hb2); (try clear hk); (try clear hi); (try clear ho0); obtain ⟨Ao27, co27, eo27⟩ := Kd.R_slice HO777.out; subst eo27) | ((with_reducible refine gate_builtin (b := .append) (xs := #[.tmp 36, .tmp 40]) rfl ?_); at_builtin; refine Kd.R_append_rows (Kd.int .u8) (w0 := w) w.heap.size rfl (.tmp 36) (.tmp 40) 22 5 (.int .u8 0) 1 rfl Try.underlying22 info5 rfl (by decide) (by omega) v773 y772 t775 _ _ _ (fun k_ => some k_ ≠ (.slice Ao23 t769.length co23 : Value).ownBlock ∧ some k_ ≠ (.slice Ao27 t775.length co27 : Value).ownBlock) (fun _ => False) rfl rfl ?aO ?aR (fun _ _ h => h) (fun _ h => h.elim) ?aF ?aB ?aS ?aL ?_; (case aR => exact cE (Kd.R_reads' HO777.out).2.2); (case aB => exact (pB HB)); (case aF => exact (fun k_ hk => ⟨Kd.fresh' (Kd.R_lt (pR HO771)) k_ hk, Kd.fresh' (Kd.R_lt (pR HO777)) k_ hk⟩)); (case aO => exact (pR HO774)); (case aS => exact (below_size (pB HB))); (case aL => have := LMc15.out; omega); intro v779 w26 ho hb hg hat; rw [← Ny778.out] at ho; replace BK765 := Aside0.mk (blk_grown (g := gb765) (o := .cells #[.bool a0_0, .bool a0_1, .bool a0_2, .int .i64 a0_3, .int .u16 a0_4, .int .u32 a0_5, .int .u32 a0_6, .slice A0_7 l0_7.length c0_7] 43 (0, 0)) (pk BK765) hg (Kd.R_ne HO774.out BK765.out (by decide))); replace HO771 := Aside0.mk (Kd.R_after (ok := (fun k_ => some k_ ≠ (.slice Ao27 t775.length co27 : Value).ownBlock)) (by (with_reducible repeat (first | apply Kd.R_alloc | apply Kd.R_drewN | apply Kd.R_drew)); exact Kd.R_mono HO771.out (fun _ hk => ⟨hk.2, hk.1.2⟩)) hg hat); replace HO777 := Aside0.mk (Kd.R_after (ok := (fun k_ => some k_ ≠ (.slice Ao23 t769.length co23 : Value).ownBlock)) (by (with_reducible repeat (first | apply Kd.R_alloc | apply Kd.R_drewN | apply Kd.R_drew)); exact Kd.R_mono HO777.out (fun _ hk => ⟨hk.1.2, hk.2⟩)) hg hat); replace HB := Aside0.mk (hb); have HO780 := Aside0.mk (ho); clear HO774; clear ho hb hg hat; obtain ⟨Z28_0, Z28_1, Z28_2, Z28_3, Z28_4, Z28_5, Z28_6, Z28_7, Y28_0, Y28_1, Y28_2, Y28_3, Y28_4, Y28_5, Y28_6, Y28_7⟩ := bc8 BK765.out) | ((with_reducible refine gate_callee (f := 40) rfl ?_); refine goesL_ (some 46) rfl rfl Try.func40 (by kernel_rfl) rfl #[.int .u64 (IntKind.u64.wrap (a0_6)), .int .i64 4] rfl (by (try simp only [List.map_toArray, List.map_cons, List.map_nil]); first | done | rfl | (simp only [List.length_drop, List.length_take]; rfl)) ?_; (with_reducible refine (crossbarref01_Must.calls kj8 (IntKind.u64.wrap (a0_6)) 4 t781 _ A16.out).mono ?_); rintro e w29 ⟨v782, rfl, ho0, hb⟩; refine ⟨_, rfl, ?_⟩; have n0_ := Aside0.mk (Kd.R_elder' (pR HO771) (Kd.R_base ho0) hb); have n1_ := Aside0.mk (Kd.R_elder' (pR HO777) (Kd.R_base ho0) hb); have n2_ := Aside0.mk (Kd.R_elder' (pR HO780) (Kd.R_base ho0) hb); have HO783 := Aside0.mk (Kd.R_lower (Kd.R_new' (Kd.R_new' (Kd.R_new' ho0 (Kd.R_lt (pR HO771))) (Kd.R_lt (pR HO777))) (Kd.R_lt (pR HO780))) (below_size (pB HB))); replace BK765 := bbE BK765 hb; replace HB := bstE HB hb; clear HO771; clear HO777; clear HO780; have HO771 := n0_; have HO777 := n1_; have HO780 := n2_; clear n0_ n1_ n2_; (try clear hb); (try clear hb2); (try clear hk); (try clear hi); (try clear ho0); obtain ⟨Ao31, co31, eo31⟩ := Kd.R_slice HO783.out; subst eo31) | ((with_reducible refine gate_builtin (b := .append) (xs := #[.tmp 42, .tmp 46]) rfl ?_); at_builtin; refine Kd.R_append_rows (Kd.int .u8) (w0 := w) w.heap.size rfl (.tmp 42) (.tmp 46) 22 5 (.int .u8 0) 1 rfl Try.underlying22 info5 rfl (by decide) (by omega) v779 y778 t781 _ _ _ (fun k_ => some k_ ≠ (.slice Ao23 t769.length co23 : Value).ownBlock ∧ some k_ ≠ (.slice Ao27 t775.length co27 : Value).ownBlock ∧ some k_ ≠ (.slice Ao31 t781.length co31 : Value).ownBlock) (fun _ => False) rfl rfl ?aO ?aR (fun _ _ h => h) (fun _ h => h.elim) ?aF ?aB ?aS ?aL ?_; (case aR => exact cE (Kd.R_reads' HO783.out).2.2); (case aB => exact (pB HB)); (case aF => exact (fun k_ hk => ⟨Kd.fresh' (Kd.R_lt (pR HO771)) k_ hk, Kd.fresh' (Kd.R_lt (pR HO777)) k_ hk, Kd.fresh' (Kd.R_lt (pR HO783)) k_ hk⟩)); (case aO => exact (by (with_reducible repeat (first | apply Kd.R_alloc | apply Kd.R_drewN | apply Kd.R_drew)); exact Kd.R_mono HO780.out (fun _ hk => ⟨hk.1.1, ⟨hk.1.2, hk.2⟩⟩))); (case aS => exact (below_size (pB HB))); (case aL => have := LMc17.out; omega); intro v785 w30 ho hb hg hat; rw [← Ny784.out] at ho; replace BK765 := Aside0.mk (blk_grown (g := gb765) (o := .cells #[.bool a0_0, .bool a0_1, .bool a0_2, .int .i64 a0_3, .int .u16 a0_4, .int .u32 a0_5, .int .u32 a0_6, .slice A0_7 l0_7.length c0_7] 43 (0, 0)) (pk BK765) hg (Kd.R_ne HO780.out BK765.out (by decide))); replace HO771 := Aside0.mk (Kd.R_after (ok := (fun k_ => some k_ ≠ (.slice Ao27 t775.length co27 : Value).ownBlock ∧ some k_ ≠ (.slice Ao31 t781.length co31 : Value).ownBlock)) (by (with_reducible repeat (first | apply Kd.R_alloc | apply Kd.R_drewN | apply Kd.R_drew)); exact Kd.R_mono HO771.out (fun _ hk => ⟨⟨hk.1.1, hk.2⟩, hk.1.2⟩)) hg hat); replace HO777 := Aside0.mk (Kd.R_after (ok := (fun k_ => some k_ ≠ (.slice Ao23 t769.length co23 : Value).ownBlock ∧ some k_ ≠ (.slice Ao31 t781.length co31 : Value).ownBlock)) (by (with_reducible repeat (first | apply Kd.R_alloc | apply Kd.R_drewN | apply Kd.R_drew)); exact Kd.R_mono HO777.out (fun _ hk => ⟨⟨hk.1.1, hk.2⟩, hk.1.2⟩)) hg hat); replace HO783 := Aside0.mk (Kd.R_after (ok := (fun k_ => some k_ ≠ (.slice Ao23 t769.length co23 : Value).ownBlock ∧ some k_ ≠ (.slice Ao27 t775.length co27 : Value).ownBlock)) (by (with_reducible repeat (first | apply Kd.R_alloc | apply Kd.R_drewN | apply Kd.R_drew)); exact Kd.R_mono HO783.out (fun _ hk => ⟨⟨hk.1.1.2, hk.1.2⟩, hk.2⟩)) hg hat); replace HB := Aside0.mk (hb); have HO786 := Aside0.mk (ho); clear HO780; clear ho hb hg hat))
          go_loopg [5, 6] kj8 (fun kq v5 v6 w' => ∃ (x5_4 : List Int) (x6_4 : Int), v6 = .int .i64 x6_4 ∧ Aside0 (crossbarref05_Write.l0 kq x5_4 x6_4 a0_0 a0_1 a0_2 a0_3 a0_4 a0_5 a0_6 l0_7 = some r) ∧ Aside0 (kq ≤ kj8) ∧ Aside0 (Kd.R (Kd.int .u8) 5 w' w.heap.size (fun _ => True) v5 x5_4) ∧ Aside0 (w'.heap[gb765]? = some (.cells #[.bool a0_0, .bool a0_1, .bool a0_2, .int .i64 a0_3, .int .u16 a0_4, .int .u32 a0_5, .int .u32 a0_6, (.slice A0_7 l0_7.length c0_7)] 43 (0, 0))) ∧ Aside0 (Below w.heap.size w w'))
          case atStart => exact ⟨(y784), (0), (by first | rfl | (simp; done) | (simp [*]; done)), H', ⟨Nat.le_refl _⟩, ⟨by (with_reducible repeat (first | apply Kd.R_alloc | apply Kd.R_drewN | apply Kd.R_drew)); exact Kd.R_mono HO786.out (fun _ hk => trivial)⟩, ⟨by (with_reducible repeat (first | refine blk_drewN ?_ _ | refine blk_drew ?_ | refine blk_alloc ?_ _)); exact BK765.out⟩, ⟨by repeat (first | (with_reducible first | exact HB.out | apply below_alloc | apply pw_below_drewN | apply below_drew1 | refine below_set ?_ GE765.out) | exact HB.out)⟩⟩
          case round =>
           clear H'
           try clear c1
           try clear p2
           try clear c3
           try clear c4
           try clear c5
           try clear p6
           try clear c8
           try clear c11
           try clear c13
           try clear c15
           try clear c17
           try clear Z10_0 Z10_1 Z10_2 Z10_3 Z10_4 Z10_5 Z10_6 Z10_7
           try clear Z20_0 Z20_1 Z20_2 Z20_3 Z20_4 Z20_5 Z20_6 Z20_7
           try clear Z24_0 Z24_1 Z24_2 Z24_3 Z24_4 Z24_5 Z24_6 Z24_7
           try clear Z28_0 Z28_1 Z28_2 Z28_3 Z28_4 Z28_5 Z28_6 Z28_7
           try clear Z4_0 Z4_1 Z4_2 Z4_3 Z4_4 Z4_5 Z4_6 Z4_7
           try clear Z7_0 Z7_1 Z7_2 Z7_3 Z7_4 Z7_5 Z7_6 Z7_7
           try clear Y10_0 Y10_1 Y10_2 Y10_3 Y10_4 Y10_5 Y10_6 Y10_7
           try clear Y20_0 Y20_1 Y20_2 Y20_3 Y20_4 Y20_5 Y20_6 Y20_7
           try clear Y24_0 Y24_1 Y24_2 Y24_3 Y24_4 Y24_5 Y24_6 Y24_7
           try clear Y28_0 Y28_1 Y28_2 Y28_3 Y28_4 Y28_5 Y28_6 Y28_7
           try clear Y4_0 Y4_1 Y4_2 Y4_3 Y4_4 Y4_5 Y4_6 Y4_7
           try clear Y7_0 Y7_1 Y7_2 Y7_3 Y7_4 Y7_5 Y7_6 Y7_7
           try clear p2
           try clear p6
           obtain ⟨x5_4, x6_4, rfl, HA, HK4, HO_5, BK765, HB⟩ := hrel
           cases gk with
           | zero => exact absurd HA.out (by simp [crossbarref05_Write.l0])
           | succ k4 =>
            have H := HA.out
            clear HA
            simp only [crossbarref05_Write.l0] at H
            by_cases c32 : x6_4 < (l0_7.length : Int)
            ·rw [if_pos c32] at H
             have c32b0 : decide (x6_4 < (l0_7.length : Int)) = true := decide_eq_true c32
             clear c32
             by_cases c33 : 0 ≤ x6_4
             ·rw [if_pos c33] at H
              have c33b0 : decide (0 ≤ x6_4) = true := decide_eq_true c33
              clear c33
              replace H := Option.bind_eq_some_iff.mp H
              obtain ⟨t788, A340, H⟩ := H
              replace H : (if x5_4.length + t788.length < 140737488355328 then (crossbarref05_Write.l0 k4 (x5_4 ++ t788) (wrap64 (x6_4 + 1)) a0_0 a0_1 a0_2 a0_3 a0_4 a0_5 a0_6 l0_7) else (none)) = some r := H
              have A34 := Aside0.mk A340
              clear A340
              by_cases c35 : x5_4.length + t788.length < 140737488355328
              ·rw [if_pos c35] at H
               have LMc35 := Aside0.mk c35
               clear c35
               obtain ⟨y791, hy791⟩ : ∃ y_ : List Int, y_ = (x5_4 ++ t788) := ⟨_, rfl⟩
               replace H : (crossbarref05_Write.l0 k4 y791 (wrap64 (x6_4 + 1)) a0_0 a0_1 a0_2 a0_3 a0_4 a0_5 a0_6 l0_7) = some r := by first | (rw [hy791]; with_reducible exact H) | (have H2_ := (Option.bind_some _ _).symm.trans H; rw [hy791]; with_reducible exact H2_) | (have H2_ := (Option.bind_some _ _).symm.trans H; with_reducible exact H2_) | with_reducible exact H | (rw [hy791]; exact H) | exact H
               have Ny791 := Aside0.mk hy791
               clear hy791
               have H' := Aside0.mk H
               clear H
               obtain ⟨Z36_0, Z36_1, Z36_2, Z36_3, Z36_4, Z36_5, Z36_6, Z36_7, Y36_0, Y36_1, Y36_2, Y36_3, Y36_4, Y36_5, Y36_6, Y36_7⟩ := bc8 BK765.out
               have p787 : 0 ≤ (x6_4 : Int) := of_decide_eq_true (by first | (with_reducible assumption) | assumption)
               have q787 : x6_4 < (l0_7.length : Int) := of_decide_eq_true (by first | (with_reducible assumption) | assumption)
               obtain ⟨ad787, e787, hx787_0⟩ := Kd.at_int HR0_7.out x6_4 p787 q787
               cases e787
               replace hx787_0 := (HB.out.cell (World.block_lt_of_cell? w _ hx787_0)).trans hx787_0
               replace p787 := eq_true p787
               replace q787 := eq_true q787
               go_wp2_with (first | ((with_reducible refine gate_callee (f := 40) rfl ?_); refine goesL_ (some 62) rfl rfl Try.func40 (by kernel_rfl) rfl #[.int .u64 (IntKind.u64.wrap (rd l0_7 x6_4)), .int .i64 4] rfl (by (try simp only [List.map_toArray, List.map_cons, List.map_nil]); first | done | rfl | (simp only [List.length_drop, List.length_take]; rfl)) ?_; (with_reducible refine (crossbarref01_Must.calls k4 (IntKind.u64.wrap (rd l0_7 x6_4)) 4 t788 _ A34.out).mono ?_); rintro e w37 ⟨v789, rfl, ho0, hb⟩; refine ⟨_, rfl, ?_⟩; have n0_ := Aside0.mk (Kd.R_elder' (pR HO_5) (Kd.R_base ho0) hb); have HO790 := Aside0.mk (Kd.R_lower (Kd.R_new' ho0 (Kd.R_lt (pR HO_5))) (below_size (pB HB))); replace BK765 := bbE BK765 hb; replace HB := bstE HB hb; clear HO_5; have HO_5 := n0_; clear n0_; (try clear hb); (try clear hb2); (try clear hk); (try clear hi); (try clear ho0); obtain ⟨Ao39, co39, eo39⟩ := Kd.R_slice HO790.out; subst eo39) | ((with_reducible refine gate_builtin (b := .append) (xs := #[.tmp 55, .tmp 62]) rfl ?_); at_builtin; refine Kd.R_append_rows (Kd.int .u8) (w0 := w) w.heap.size rfl (.tmp 55) (.tmp 62) 22 5 (.int .u8 0) 1 rfl Try.underlying22 info5 rfl (by decide) (by omega) u5 x5_4 t788 _ _ _ (fun k_ => some k_ ≠ (.slice Ao39 t788.length co39 : Value).ownBlock) (fun _ => False) rfl rfl ?aO ?aR (fun _ _ h => h) (fun _ h => h.elim) ?aF ?aB ?aS ?aL ?_; (case aR => exact cE (Kd.R_reads' HO790.out).2.2); (case aB => exact (pB HB)); (case aF => exact (fun k_ hk => Kd.fresh' (Kd.R_lt (pR HO790)) k_ hk)); (case aO => exact (by (with_reducible repeat (first | apply Kd.R_alloc | apply Kd.R_drewN | apply Kd.R_drew)); exact Kd.R_mono HO_5.out (fun _ hk => hk.2))); (case aS => exact (below_size (pB HB))); (case aL => have := LMc35.out; omega); intro v792 w38 ho hb hg hat; rw [← Ny791.out] at ho; replace BK765 := Aside0.mk (blk_grown (g := gb765) (o := .cells #[.bool a0_0, .bool a0_1, .bool a0_2, .int .i64 a0_3, .int .u16 a0_4, .int .u32 a0_5, .int .u32 a0_6, .slice (some ad787) l0_7.length c0_7] 43 (0, 0)) (pk BK765) hg (Kd.R_ne HO_5.out BK765.out (by decide))); replace HO790 := Aside0.mk (Kd.R_after (ok := (fun _ => True)) (pR HO790) hg hat); replace HB := Aside0.mk (hb); have HO793 := Aside0.mk (ho); clear HO_5; clear ho hb hg hat))
               go_roundg k4
               case measure => have := HJ1.out; have := HJ5.out; have := HJ8.out; have := HK4.out; omega
               case rel => exact ⟨(y791), (wrap64 (x6_4 + 1)), (by first | rfl | (simp; done) | (simp [*]; done)), H', ⟨by have := HJ1.out; have := HJ5.out; have := HJ8.out; have := HK4.out; omega⟩, ⟨by (with_reducible repeat (first | apply Kd.R_alloc | apply Kd.R_drewN | apply Kd.R_drew)); exact Kd.R_mono HO793.out (fun _ hk => trivial)⟩, ⟨by (with_reducible repeat (first | refine blk_drewN ?_ _ | refine blk_drew ?_ | refine blk_alloc ?_ _)); exact BK765.out⟩, ⟨by repeat (first | (with_reducible first | exact HB.out | apply below_alloc | apply pw_below_drewN | apply below_drew1 | refine below_set ?_ GE765.out) | exact HB.out)⟩⟩
              rw [if_neg c35] at H
              exact absurd H (by simp)
             rw [if_neg c33] at H
             exact absurd H (by simp)
            rw [if_neg c32] at H
            have c32b0 : decide (x6_4 < (l0_7.length : Int)) = false := decide_eq_false c32
            clear c32
            obtain rfl := Option.some.inj H
            obtain ⟨Z40_0, Z40_1, Z40_2, Z40_3, Z40_4, Z40_5, Z40_6, Z40_7, Y40_0, Y40_1, Y40_2, Y40_3, Y40_4, Y40_5, Y40_6, Y40_7⟩ := bc8 BK765.out
            go_wp2
            go_ret
            exact ⟨_, by first | rfl | (simp [errW_none, errW_some] <;> rfl) | (simp [*, errW_none, errW_some] <;> rfl), by (with_reducible repeat (first | apply Kd.R_alloc | apply Kd.R_drewN | apply Kd.R_drew)); exact HO_5.out, by repeat (first | (with_reducible first | exact HB.out | apply below_alloc | apply pw_below_drewN | apply below_drew1 | refine below_set ?_ GE765.out) | exact HB.out)⟩
         rw [if_neg c17] at H
         exact absurd H (by simp)
        rw [if_neg c15] at H
        exact absurd H (by simp)
       rw [if_neg c13] at H
       exact absurd H (by simp)
def crossbarref03_Add.l0 : Nat → Int → List Int → Int → Option (List Int)
 | 0, _, _, _ => none
 | k + 1, x1, x5, x6 => if x6 < x1 then (if x5.length < 140737488355328 then (crossbarref03_Add.l0 k x1 (x5 ++ [0]) (wrap64 (x6 + 1))) else (none)) else (if x5.length < 140737488355328 then (some (x5 ++ [(x1) % 256])) else (none))
def crossbarref03_Add.f (k : Nat) (l0 : List Int) (a1 : Int) : Option (List Int) := (some (([] : List Int) : List Int)).bind fun y794 => (if y794.length + l0.length < 140737488355328 then (crossbarref03_Add.l0 k a1 (y794 ++ l0) 1) else (none))
set_option maxHeartbeats 8000000 in
set_option maxRecDepth 100000 in
theorem crossbarref03_Add.calls (k : Nat) (A0 : Option Addr) (c0 : Nat) (l0 : List Int) (a1 : Int) (r : List Int) (w : World) (hr0 : Kd.C (Kd.int .u8) w A0 l0.length l0) (hc0 : l0.length ≤ c0) (h : crossbarref03_Add.f k l0 a1 = some r) :
  Calls Try.prog 41 #[.slice A0 l0.length c0, .int .i64 a1] w fun e w' => ∃ v0_ : Value, e = .returned (v0_) ∧ Kd.R (Kd.int .u8) 5 w' w.heap.size (fun _ => True) v0_ r ∧ Below w.heap.size w w' := by
 have HR0 := Aside0.mk hr0
 have HC0 := Aside0.mk hc0
 clear hr0 hc0
 have HB := Aside0.mk (Below.refl w.heap.size w)
 have H : ((some (([] : List Int) : List Int)).bind fun y794 => (if y794.length + l0.length < 140737488355328 then (crossbarref03_Add.l0 k a1 (y794 ++ l0) 1) else (none))) = some r := h
 clear h
 obtain ⟨y794, hy794⟩ : ∃ y_ : List Int, y_ = (([] : List Int)) := ⟨_, rfl⟩
 replace H : (if y794.length + l0.length < 140737488355328 then (crossbarref03_Add.l0 k a1 (y794 ++ l0) 1) else (none)) = some r := by first | (rw [hy794]; with_reducible exact H) | (have H2_ := (Option.bind_some _ _).symm.trans H; rw [hy794]; with_reducible exact H2_) | (have H2_ := (Option.bind_some _ _).symm.trans H; with_reducible exact H2_) | with_reducible exact H | (rw [hy794]; exact H) | exact H
 have Ny794 := Aside0.mk hy794
 clear hy794
 by_cases c3 : y794.length + l0.length < 140737488355328
 ·rw [if_pos c3] at H
  have LMc3 := Aside0.mk c3
  clear c3
  obtain ⟨y797, hy797⟩ : ∃ y_ : List Int, y_ = (y794 ++ l0) := ⟨_, rfl⟩
  replace H : (crossbarref03_Add.l0 k a1 y797 1) = some r := by first | (rw [hy797]; with_reducible exact H) | (have H2_ := (Option.bind_some _ _).symm.trans H; rw [hy797]; with_reducible exact H2_) | (have H2_ := (Option.bind_some _ _).symm.trans H; with_reducible exact H2_) | with_reducible exact H | (rw [hy797]; exact H) | exact H
  have Ny797 := Aside0.mk hy797
  clear hy797
  have H' := Aside0.mk H
  clear H
  go_enter Try.func41, Try.ntmps41
  go_wp2_with (first | ((with_reducible refine gate_dst (N := 7) rfl ?_); refine Kd.R_lit (Kd.int .u8) _ 5 ?hg (N := 7) ?hd (xs := ([] : List Int)) (inner := []) (ok := fun _ => True) (okp := fun _ => True) ?hr ?hp (fun _ hk => hk) trivial (Below.refl _ _) (Nat.le_refl _) (by simp) ?_; (case hd => rfl); (case hg => rfl); (case hr => first | (go_simp; done) | (go_simp; rfl)); (case hp => exact (Reps.none _ _)); intro v795 w4 ho5 hb hg_ hnew_; clear hg_ hnew_; (first | rw [← Ny794.out] at ho5 | (simp only [Int.reduceToNat] at ho5; rw [← Ny794.out] at ho5)); have HO796 := Aside0.mk (Kd.R_lower ho5 (below_size (pB HB))); replace HB := bstE HB hb; clear hb ho5) | ((with_reducible refine gate_builtin (b := .append) (xs := #[.tmp 7, .tmp 8]) rfl ?_); at_builtin; refine Kd.R_append_rows (Kd.int .u8) (w0 := w) w.heap.size rfl (.tmp 7) (.tmp 8) 22 5 (.int .u8 0) 1 rfl Try.underlying22 info5 rfl (by decide) (by omega) v795 y794 l0 _ _ _ (fun _ => True) (fun _ => False) rfl rfl ?aO ?aR (fun _ _ h => h) (fun _ h => h.elim) ?aF ?aB ?aS ?aL ?_; (case aR => exact cbE HR0 HB); (case aB => exact (pB HB)); (case aF => exact (fun _ _ => trivial)); (case aO => exact (pR HO796)); (case aS => exact (below_size (pB HB))); (case aL => have := LMc3.out; omega); intro v798 w6 ho hb hg hat; rw [← Ny797.out] at ho; replace HB := Aside0.mk (hb); have HO799 := Aside0.mk (ho); clear HO796; clear ho hb hg hat))
  go_loopg [5, 6] k (fun kq v5 v6 w' => ∃ (x5_1 : List Int) (x6_1 : Int), v6 = .int .i64 x6_1 ∧ Aside0 (crossbarref03_Add.l0 kq a1 x5_1 x6_1 = some r) ∧ Aside0 (kq ≤ k) ∧ Aside0 (Kd.R (Kd.int .u8) 5 w' w.heap.size (fun _ => True) v5 x5_1) ∧ Aside0 (Below w.heap.size w w'))
  case atStart => exact ⟨(y797), (1), (by first | rfl | (simp; done) | (simp [*]; done)), H', ⟨Nat.le_refl _⟩, ⟨by (with_reducible repeat (first | apply Kd.R_alloc | apply Kd.R_drewN | apply Kd.R_drew)); exact HO799.out⟩, ⟨by repeat (first | (with_reducible first | exact HB.out | apply below_alloc | apply pw_below_drewN | apply below_drew1) | exact HB.out)⟩⟩
  case round =>
   clear H'
   try clear p2
   try clear c3
   try clear c4
   obtain ⟨x5_1, x6_1, rfl, HA, HK1, HO_5, HB⟩ := hrel
   cases gk with
   | zero => exact absurd HA.out (by simp [crossbarref03_Add.l0])
   | succ k1 =>
    have H := HA.out
    clear HA
    simp only [crossbarref03_Add.l0] at H
    by_cases c7 : x6_1 < a1
    ·rw [if_pos c7] at H
     have c7b0 : decide (x6_1 < a1) = true := decide_eq_true c7
     clear c7
     by_cases c8 : x5_1.length < 140737488355328
     ·rw [if_pos c8] at H
      have LMc8 := Aside0.mk c8
      clear c8
      obtain ⟨y800, hy800⟩ : ∃ y_ : List Int, y_ = (x5_1 ++ [0]) := ⟨_, rfl⟩
      replace H : (crossbarref03_Add.l0 k1 a1 y800 (wrap64 (x6_1 + 1))) = some r := by first | (rw [hy800]; with_reducible exact H) | (have H2_ := (Option.bind_some _ _).symm.trans H; rw [hy800]; with_reducible exact H2_) | (have H2_ := (Option.bind_some _ _).symm.trans H; with_reducible exact H2_) | with_reducible exact H | (rw [hy800]; exact H) | exact H
      have Ny800 := Aside0.mk hy800
      clear hy800
      have H' := Aside0.mk H
      clear H
      go_wp2_with (first | ((with_reducible refine gate_builtin (b := .append) (xs := #[.tmp 15, .tmp 16]) rfl ?_); at_builtin; refine Kd.R_append (Kd.int .u8) (w0 := w) w.heap.size rfl (.tmp 15) (.tmp 16) 22 5 (.int .u8 0) 1 rfl Try.underlying22 info5 rfl (by decide) (by omega) u5 x5_1 0 [.int .u8 0] (fun _ => True) (fun _ => False) rfl rfl ?aP (fun _ hk => hk.elim) ?aF ?aO ?aB ?aS ?aL ?_; (case aP => exact rfl); (case aB => exact (pB HB)); (case aF => exact (fun _ _ => trivial)); (case aO => exact (pR HO_5)); (case aS => exact (below_size (pB HB))); (case aL => have := LMc8.out; omega); intro v801 w9 ho hb hg hat; rw [← Ny800.out] at ho; replace HB := Aside0.mk (hb); have HO802 := Aside0.mk (ho); clear HO_5; clear ho hb hg hat))
      go_roundg k1
      case measure => have := HK1.out; omega
      case rel => exact ⟨(y800), (wrap64 (x6_1 + 1)), (by first | rfl | (simp; done) | (simp [*]; done)), H', ⟨by have := HK1.out; omega⟩, ⟨by (with_reducible repeat (first | apply Kd.R_alloc | apply Kd.R_drewN | apply Kd.R_drew)); exact HO802.out⟩, ⟨by repeat (first | (with_reducible first | exact HB.out | apply below_alloc | apply pw_below_drewN | apply below_drew1) | exact HB.out)⟩⟩
     rw [if_neg c8] at H
     exact absurd H (by simp)
    rw [if_neg c7] at H
    have c7b0 : decide (x6_1 < a1) = false := decide_eq_false c7
    clear c7
    by_cases c10 : x5_1.length < 140737488355328
    ·rw [if_pos c10] at H
     have LMc10 := Aside0.mk c10
     clear c10
     obtain ⟨y803, hy803⟩ : ∃ y_ : List Int, y_ = (x5_1 ++ [(a1) % 256]) := ⟨_, rfl⟩
     replace H : (some y803) = some r := by first | (rw [hy803]; with_reducible exact H) | (have H2_ := (Option.bind_some _ _).symm.trans H; rw [hy803]; with_reducible exact H2_) | (have H2_ := (Option.bind_some _ _).symm.trans H; with_reducible exact H2_) | with_reducible exact H | (rw [hy803]; exact H) | exact H
     have Ny803 := Aside0.mk hy803
     clear hy803
     obtain rfl := Option.some.inj H
     go_wp2_with (first | ((with_reducible refine gate_builtin (b := .append) (xs := #[.tmp 18, .tmp 21]) rfl ?_); at_builtin; refine Kd.R_append (Kd.int .u8) (w0 := w) w.heap.size rfl (.tmp 18) (.tmp 21) 22 5 (.int .u8 0) 1 rfl Try.underlying22 info5 rfl (by decide) (by omega) u5 x5_1 ((a1) % 256) [.int .u8 ((a1) % 256)] (fun _ => True) (fun _ => False) rfl rfl ?aP (fun _ hk => hk.elim) ?aF ?aO ?aB ?aS ?aL ?_; (case aP => exact rfl); (case aB => exact (pB HB)); (case aF => exact (fun _ _ => trivial)); (case aO => exact (pR HO_5)); (case aS => exact (below_size (pB HB))); (case aL => have := LMc10.out; omega); intro v804 w11 ho hb hg hat; rw [← Ny803.out] at ho; replace HB := Aside0.mk (hb); have HO805 := Aside0.mk (ho); clear HO_5; clear ho hb hg hat))
     go_ret
     exact ⟨_, by first | rfl | (simp [errW_none, errW_some] <;> rfl) | (simp [*, errW_none, errW_some] <;> rfl), by (with_reducible repeat (first | apply Kd.R_alloc | apply Kd.R_drewN | apply Kd.R_drew)); exact HO805.out, by repeat (first | (with_reducible first | exact HB.out | apply below_alloc | apply pw_below_drewN | apply below_drew1) | exact HB.out)⟩
    rw [if_neg c10] at H
    exact absurd H (by simp)
 rw [if_neg c3] at H
 exact absurd H (by simp)
def crossbarref06_Write.f (k : Nat) (a0_0 : Bool) (a0_1 : Bool) (a0_2 : Bool) (a0_3 : Int) (a0_4 : Int) (a0_5 : Int) (a0_6 : Int) (l0_7 : List Int) (a0_8 : Int) (l0_9 : List Int) (l0_10 : List Int) (a0_11 : Int) : Option (List Int) := (crossbarref05_Write.f k a0_0 a0_1 a0_2 a0_3 a0_4 a0_5 a0_6 l0_7).bind fun t807 => (if a0_1 = true then ((crossbarref01_Must.f k (IntKind.u64.wrap (a0_8)) 2).bind fun t810 => (if t807.length + t810.length < 140737488355328 then ((some (t807 ++ t810 : List Int)).bind fun y813 => ((crossbarref01_Must.f k (IntKind.u64.wrap (wrap64 ((l0_9.length : Int) / 4))) 2).bind fun t816 => (if y813.length + t816.length < 140737488355328 then ((some (y813 ++ t816 : List Int)).bind fun y819 => (if y819.length + l0_9.length < 140737488355328 then ((some (y819 ++ l0_9 : List Int)).bind fun y822 => (if y822.length + l0_10.length < 140737488355328 then ((some (y822 ++ l0_10 : List Int)).bind fun y825 => (if a0_0 = true then ((crossbarref03_Add.f k y825 a0_11).bind fun t828 => (some t828)) else (some y825))) else (none))) else (none))) else (none)))) else (none))) else (if t807.length + l0_10.length < 140737488355328 then ((some (t807 ++ l0_10 : List Int)).bind fun y831 => (if a0_0 = true then ((crossbarref03_Add.f k y831 a0_11).bind fun t834 => (some t834)) else (some y831))) else (none)))
set_option maxHeartbeats 8000000 in
set_option maxRecDepth 100000 in
theorem crossbarref06_Write.calls (k : Nat) (a0_0 : Bool) (a0_1 : Bool) (a0_2 : Bool) (a0_3 : Int) (a0_4 : Int) (a0_5 : Int) (a0_6 : Int) (A0_7 : Option Addr) (c0_7 : Nat) (l0_7 : List Int) (a0_8 : Int) (A0_9 : Option Addr) (c0_9 : Nat) (l0_9 : List Int) (A0_10 : Option Addr) (c0_10 : Nat) (l0_10 : List Int) (a0_11 : Int) (r : List Int) (w : World) (hr0_7 : Kd.C (Kd.int .u32) w A0_7 l0_7.length l0_7) (hc0_7 : l0_7.length ≤ c0_7) (hr0_9 : Kd.C (Kd.int .u8) w A0_9 l0_9.length l0_9) (hc0_9 : l0_9.length ≤ c0_9) (hr0_10 : Kd.C (Kd.int .u8) w A0_10 l0_10.length l0_10) (hc0_10 : l0_10.length ≤ c0_10) (h : crossbarref06_Write.f k a0_0 a0_1 a0_2 a0_3 a0_4 a0_5 a0_6 l0_7 a0_8 l0_9 l0_10 a0_11 = some r) :
  Calls Try.prog 25 #[.agg #[.bool a0_0, .bool a0_1, .bool a0_2, .int .i64 a0_3, .int .u16 a0_4, .int .u32 a0_5, .int .u32 a0_6, .slice A0_7 l0_7.length c0_7, .int .u16 a0_8, .slice A0_9 l0_9.length c0_9, .slice A0_10 l0_10.length c0_10, .int .i64 a0_11]] w fun e w' => ∃ v0_ : Value, e = .returned (v0_) ∧ Kd.R (Kd.int .u8) 5 w' w.heap.size (fun _ => True) v0_ r ∧ Below w.heap.size w w' := by
 have hu45 := Try.underlying45
 have hu43 := Try.underlying43
 have HR0_7 := Aside0.mk hr0_7
 have HC0_7 := Aside0.mk hc0_7
 clear hr0_7 hc0_7
 have HR0_9 := Aside0.mk hr0_9
 have HC0_9 := Aside0.mk hc0_9
 clear hr0_9 hc0_9
 have HR0_10 := Aside0.mk hr0_10
 have HC0_10 := Aside0.mk hc0_10
 clear hr0_10 hc0_10
 have HB := Aside0.mk (Below.refl w.heap.size w)
 have H : ((crossbarref05_Write.f k a0_0 a0_1 a0_2 a0_3 a0_4 a0_5 a0_6 l0_7).bind fun t807 => (if a0_1 = true then ((crossbarref01_Must.f k (IntKind.u64.wrap (a0_8)) 2).bind fun t810 => (if t807.length + t810.length < 140737488355328 then ((some (t807 ++ t810 : List Int)).bind fun y813 => ((crossbarref01_Must.f k (IntKind.u64.wrap (wrap64 ((l0_9.length : Int) / 4))) 2).bind fun t816 => (if y813.length + t816.length < 140737488355328 then ((some (y813 ++ t816 : List Int)).bind fun y819 => (if y819.length + l0_9.length < 140737488355328 then ((some (y819 ++ l0_9 : List Int)).bind fun y822 => (if y822.length + l0_10.length < 140737488355328 then ((some (y822 ++ l0_10 : List Int)).bind fun y825 => (if a0_0 = true then ((crossbarref03_Add.f k y825 a0_11).bind fun t828 => (some t828)) else (some y825))) else (none))) else (none))) else (none)))) else (none))) else (if t807.length + l0_10.length < 140737488355328 then ((some (t807 ++ l0_10 : List Int)).bind fun y831 => (if a0_0 = true then ((crossbarref03_Add.f k y831 a0_11).bind fun t834 => (some t834)) else (some y831))) else (none)))) = some r := h
 clear h
 replace H := Option.bind_eq_some_iff.mp H
 obtain ⟨t807, A20, H⟩ := H
 replace H : (if a0_1 = true then ((crossbarref01_Must.f k (IntKind.u64.wrap (a0_8)) 2).bind fun t810 => (if t807.length + t810.length < 140737488355328 then ((some (t807 ++ t810 : List Int)).bind fun y813 => ((crossbarref01_Must.f k (IntKind.u64.wrap (wrap64 ((l0_9.length : Int) / 4))) 2).bind fun t816 => (if y813.length + t816.length < 140737488355328 then ((some (y813 ++ t816 : List Int)).bind fun y819 => (if y819.length + l0_9.length < 140737488355328 then ((some (y819 ++ l0_9 : List Int)).bind fun y822 => (if y822.length + l0_10.length < 140737488355328 then ((some (y822 ++ l0_10 : List Int)).bind fun y825 => (if a0_0 = true then ((crossbarref03_Add.f k y825 a0_11).bind fun t828 => (some t828)) else (some y825))) else (none))) else (none))) else (none)))) else (none))) else (if t807.length + l0_10.length < 140737488355328 then ((some (t807 ++ l0_10 : List Int)).bind fun y831 => (if a0_0 = true then ((crossbarref03_Add.f k y831 a0_11).bind fun t834 => (some t834)) else (some y831))) else (none))) = some r := H
 have A2 := Aside0.mk A20
 clear A20
 by_cases c3 : a0_1 = true
 ·subst c3
  have H1 : ((crossbarref01_Must.f k (IntKind.u64.wrap (a0_8)) 2).bind fun t810 => (if t807.length + t810.length < 140737488355328 then ((some (t807 ++ t810 : List Int)).bind fun y813 => ((crossbarref01_Must.f k (IntKind.u64.wrap (wrap64 ((l0_9.length : Int) / 4))) 2).bind fun t816 => (if y813.length + t816.length < 140737488355328 then ((some (y813 ++ t816 : List Int)).bind fun y819 => (if y819.length + l0_9.length < 140737488355328 then ((some (y819 ++ l0_9 : List Int)).bind fun y822 => (if y822.length + l0_10.length < 140737488355328 then ((some (y822 ++ l0_10 : List Int)).bind fun y825 => (if a0_0 = true then ((crossbarref03_Add.f k y825 a0_11).bind fun t828 => (some t828)) else (some y825))) else (none))) else (none))) else (none)))) else (none))) = some r := by rw [if_pos rfl] at H; exact H
  clear H
  have H := H1
  clear H1
  replace H := Option.bind_eq_some_iff.mp H
  obtain ⟨t810, A40, H⟩ := H
  replace H : (if t807.length + t810.length < 140737488355328 then ((some (t807 ++ t810 : List Int)).bind fun y813 => ((crossbarref01_Must.f k (IntKind.u64.wrap (wrap64 ((l0_9.length : Int) / 4))) 2).bind fun t816 => (if y813.length + t816.length < 140737488355328 then ((some (y813 ++ t816 : List Int)).bind fun y819 => (if y819.length + l0_9.length < 140737488355328 then ((some (y819 ++ l0_9 : List Int)).bind fun y822 => (if y822.length + l0_10.length < 140737488355328 then ((some (y822 ++ l0_10 : List Int)).bind fun y825 => (if a0_0 = true then ((crossbarref03_Add.f k y825 a0_11).bind fun t828 => (some t828)) else (some y825))) else (none))) else (none))) else (none)))) else (none)) = some r := H
  have A4 := Aside0.mk A40
  clear A40
  by_cases c5 : t807.length + t810.length < 140737488355328
  ·rw [if_pos c5] at H
   have LMc5 := Aside0.mk c5
   clear c5
   obtain ⟨y813, hy813⟩ : ∃ y_ : List Int, y_ = (t807 ++ t810) := ⟨_, rfl⟩
   replace H : ((crossbarref01_Must.f k (IntKind.u64.wrap (wrap64 ((l0_9.length : Int) / 4))) 2).bind fun t816 => (if y813.length + t816.length < 140737488355328 then ((some (y813 ++ t816 : List Int)).bind fun y819 => (if y819.length + l0_9.length < 140737488355328 then ((some (y819 ++ l0_9 : List Int)).bind fun y822 => (if y822.length + l0_10.length < 140737488355328 then ((some (y822 ++ l0_10 : List Int)).bind fun y825 => (if a0_0 = true then ((crossbarref03_Add.f k y825 a0_11).bind fun t828 => (some t828)) else (some y825))) else (none))) else (none))) else (none))) = some r := by first | (rw [hy813]; with_reducible exact H) | (have H2_ := (Option.bind_some _ _).symm.trans H; rw [hy813]; with_reducible exact H2_) | (have H2_ := (Option.bind_some _ _).symm.trans H; with_reducible exact H2_) | with_reducible exact H | (rw [hy813]; exact H) | exact H
   have Ny813 := Aside0.mk hy813
   clear hy813
   replace H := Option.bind_eq_some_iff.mp H
   obtain ⟨t816, A60, H⟩ := H
   replace H : (if y813.length + t816.length < 140737488355328 then ((some (y813 ++ t816 : List Int)).bind fun y819 => (if y819.length + l0_9.length < 140737488355328 then ((some (y819 ++ l0_9 : List Int)).bind fun y822 => (if y822.length + l0_10.length < 140737488355328 then ((some (y822 ++ l0_10 : List Int)).bind fun y825 => (if a0_0 = true then ((crossbarref03_Add.f k y825 a0_11).bind fun t828 => (some t828)) else (some y825))) else (none))) else (none))) else (none)) = some r := H
   have A6 := Aside0.mk A60
   clear A60
   by_cases c7 : y813.length + t816.length < 140737488355328
   ·rw [if_pos c7] at H
    have LMc7 := Aside0.mk c7
    clear c7
    obtain ⟨y819, hy819⟩ : ∃ y_ : List Int, y_ = (y813 ++ t816) := ⟨_, rfl⟩
    replace H : (if y819.length + l0_9.length < 140737488355328 then ((some (y819 ++ l0_9 : List Int)).bind fun y822 => (if y822.length + l0_10.length < 140737488355328 then ((some (y822 ++ l0_10 : List Int)).bind fun y825 => (if a0_0 = true then ((crossbarref03_Add.f k y825 a0_11).bind fun t828 => (some t828)) else (some y825))) else (none))) else (none)) = some r := by first | (rw [hy819]; with_reducible exact H) | (have H2_ := (Option.bind_some _ _).symm.trans H; rw [hy819]; with_reducible exact H2_) | (have H2_ := (Option.bind_some _ _).symm.trans H; with_reducible exact H2_) | with_reducible exact H | (rw [hy819]; exact H) | exact H
    have Ny819 := Aside0.mk hy819
    clear hy819
    by_cases c8 : y819.length + l0_9.length < 140737488355328
    ·rw [if_pos c8] at H
     have LMc8 := Aside0.mk c8
     clear c8
     obtain ⟨y822, hy822⟩ : ∃ y_ : List Int, y_ = (y819 ++ l0_9) := ⟨_, rfl⟩
     replace H : (if y822.length + l0_10.length < 140737488355328 then ((some (y822 ++ l0_10 : List Int)).bind fun y825 => (if a0_0 = true then ((crossbarref03_Add.f k y825 a0_11).bind fun t828 => (some t828)) else (some y825))) else (none)) = some r := by first | (rw [hy822]; with_reducible exact H) | (have H2_ := (Option.bind_some _ _).symm.trans H; rw [hy822]; with_reducible exact H2_) | (have H2_ := (Option.bind_some _ _).symm.trans H; with_reducible exact H2_) | with_reducible exact H | (rw [hy822]; exact H) | exact H
     have Ny822 := Aside0.mk hy822
     clear hy822
     by_cases c9 : y822.length + l0_10.length < 140737488355328
     ·rw [if_pos c9] at H
      have LMc9 := Aside0.mk c9
      clear c9
      obtain ⟨y825, hy825⟩ : ∃ y_ : List Int, y_ = (y822 ++ l0_10) := ⟨_, rfl⟩
      replace H : (if a0_0 = true then ((crossbarref03_Add.f k y825 a0_11).bind fun t828 => (some t828)) else (some y825)) = some r := by first | (rw [hy825]; with_reducible exact H) | (have H2_ := (Option.bind_some _ _).symm.trans H; rw [hy825]; with_reducible exact H2_) | (have H2_ := (Option.bind_some _ _).symm.trans H; with_reducible exact H2_) | with_reducible exact H | (rw [hy825]; exact H) | exact H
      have Ny825 := Aside0.mk hy825
      clear hy825
      by_cases c10 : a0_0 = true
      ·subst c10
       have H1 : ((crossbarref03_Add.f k y825 a0_11).bind fun t828 => (some t828)) = some r := by rw [if_pos rfl] at H; exact H
       clear H
       have H := H1
       clear H1
       replace H := Option.bind_eq_some_iff.mp H
       obtain ⟨t828, A110, H⟩ := H
       replace H : (some t828) = some r := H
       have A11 := Aside0.mk A110
       clear A110
       obtain rfl := Option.some.inj H
       go_enter Try.func25, Try.ntmps25
       go_wp2_with (first | ((with_reducible refine gate_dst (N := 1) rfl ?_); refine box_event ?hg (N := 1) ?hd (cs := #[.bool true, .bool true, .bool a0_2, .int .i64 a0_3, .int .u16 a0_4, .int .u32 a0_5, .int .u32 a0_6, .slice A0_7 l0_7.length c0_7, .int .u16 a0_8, .slice A0_9 l0_9.length c0_9, .slice A0_10 l0_10.length c0_10, .int .i64 a0_11]) (t := 45) ?hr ?_; (case hd => rfl); (case hg => rfl); (case hr => first | (go_simp; done) | (go_simp; rfl)); intro gb806 hg w12 hbox hb; have n0_ := bstE HB hb; have BK806 := Aside0.mk (hbox); have GW806 := geE hg HB; have GE806 := geE hg HB; clear HB; have HB := n0_; clear n0_; clear hb hbox hg; obtain ⟨Z13_0, Z13_1, Z13_2, Z13_3, Z13_4, Z13_5, Z13_6, Z13_7, Z13_8, Z13_9, Z13_10, Z13_11, Y13_0, Y13_1, Y13_2, Y13_3, Y13_4, Y13_5, Y13_6, Y13_7, Y13_8, Y13_9, Y13_10, Y13_11⟩ := bc12 BK806.out) | ((with_reducible refine gate_callee (f := 39) rfl ?_); refine goesL_ (some 6) rfl rfl Try.func39 (by kernel_rfl) rfl #[.agg #[.bool true, .bool true, .bool a0_2, .int .i64 a0_3, .int .u16 a0_4, .int .u32 a0_5, .int .u32 a0_6, .slice A0_7 l0_7.length c0_7]] rfl (by (try simp only [List.map_toArray, List.map_cons, List.map_nil]); first | done | rfl | (simp only [List.length_drop, List.length_take]; rfl)) ?_; (with_reducible refine (crossbarref05_Write.calls k true true a0_2 a0_3 a0_4 a0_5 a0_6 _ _ l0_7 t807 _ ?side1 ?side2 A2.out).mono ?_); (case side1 => exact cbE HR0_7 HB); (case side2 => exact HC0_7.out); rintro e w14 ⟨v808, rfl, ho0, hb⟩; refine ⟨_, rfl, ?_⟩; have HO809 := Aside0.mk (Kd.R_lower ho0 (below_size (pB HB))); replace BK806 := bbE BK806 hb; replace HB := bstE HB hb; (try clear hb); (try clear hb2); (try clear hk); (try clear hi); (try clear ho0); obtain ⟨Z15_0, Z15_1, Z15_2, Z15_3, Z15_4, Z15_5, Z15_6, Z15_7, Z15_8, Z15_9, Z15_10, Z15_11, Y15_0, Y15_1, Y15_2, Y15_3, Y15_4, Y15_5, Y15_6, Y15_7, Y15_8, Y15_9, Y15_10, Y15_11⟩ := bc12 BK806.out) | ((with_reducible refine gate_callee (f := 40) rfl ?_); refine goesL_ (some 14) rfl rfl Try.func40 (by kernel_rfl) rfl #[.int .u64 (IntKind.u64.wrap (a0_8)), .int .i64 2] rfl (by (try simp only [List.map_toArray, List.map_cons, List.map_nil]); first | done | rfl | (simp only [List.length_drop, List.length_take]; rfl)) ?_; (with_reducible refine (crossbarref01_Must.calls k (IntKind.u64.wrap (a0_8)) 2 t810 _ A4.out).mono ?_); rintro e w16 ⟨v811, rfl, ho0, hb⟩; refine ⟨_, rfl, ?_⟩; have n0_ := Aside0.mk (Kd.R_elder' (pR HO809) (Kd.R_base ho0) hb); have HO812 := Aside0.mk (Kd.R_lower (Kd.R_new' ho0 (Kd.R_lt (pR HO809))) (below_size (pB HB))); replace BK806 := bbE BK806 hb; replace HB := bstE HB hb; clear HO809; have HO809 := n0_; clear n0_; (try clear hb); (try clear hb2); (try clear hk); (try clear hi); (try clear ho0); obtain ⟨Ao18, co18, eo18⟩ := Kd.R_slice HO812.out; subst eo18) | ((with_reducible refine gate_builtin (b := .append) (xs := #[.tmp 10, .tmp 14]) rfl ?_); at_builtin; refine Kd.R_append_rows (Kd.int .u8) (w0 := w) w.heap.size rfl (.tmp 10) (.tmp 14) 22 5 (.int .u8 0) 1 rfl Try.underlying22 info5 rfl (by decide) (by omega) v808 t807 t810 _ _ _ (fun k_ => some k_ ≠ (.slice Ao18 t810.length co18 : Value).ownBlock) (fun _ => False) rfl rfl ?aO ?aR (fun _ _ h => h) (fun _ h => h.elim) ?aF ?aB ?aS ?aL ?_; (case aR => exact cE (Kd.R_reads' HO812.out).2.2); (case aB => exact (pB HB)); (case aF => exact (fun k_ hk => Kd.fresh' (Kd.R_lt (pR HO812)) k_ hk)); (case aO => exact (by (with_reducible repeat (first | apply Kd.R_alloc | apply Kd.R_drewN | apply Kd.R_drew)); exact Kd.R_mono HO809.out (fun _ hk => hk.2))); (case aS => exact (below_size (pB HB))); (case aL => have := LMc5.out; omega); intro v814 w17 ho hb hg hat; rw [← Ny813.out] at ho; replace BK806 := Aside0.mk (blk_grown (g := gb806) (o := .cells #[.bool true, .bool true, .bool a0_2, .int .i64 a0_3, .int .u16 a0_4, .int .u32 a0_5, .int .u32 a0_6, .slice A0_7 l0_7.length c0_7, .int .u16 a0_8, .slice A0_9 l0_9.length c0_9, .slice A0_10 l0_10.length c0_10, .int .i64 a0_11] 45 (0, 0)) (pk BK806) hg (Kd.R_ne HO809.out BK806.out (by decide))); replace HO812 := Aside0.mk (Kd.R_after (ok := (fun _ => True)) (pR HO812) hg hat); replace HB := Aside0.mk (hb); have HO815 := Aside0.mk (ho); clear HO809; clear ho hb hg hat; obtain ⟨Z19_0, Z19_1, Z19_2, Z19_3, Z19_4, Z19_5, Z19_6, Z19_7, Z19_8, Z19_9, Z19_10, Z19_11, Y19_0, Y19_1, Y19_2, Y19_3, Y19_4, Y19_5, Y19_6, Y19_7, Y19_8, Y19_9, Y19_10, Y19_11⟩ := bc12 BK806.out) | ((with_reducible refine gate_callee (f := 40) rfl ?_); refine goesL_ (some 22) rfl rfl Try.func40 (by kernel_rfl) rfl #[.int .u64 (IntKind.u64.wrap (wrap64 ((l0_9.length : Int) / 4))), .int .i64 2] rfl (by (try simp only [List.map_toArray, List.map_cons, List.map_nil]); first | done | rfl | (simp only [List.length_drop, List.length_take]; rfl)) ?_; (with_reducible refine (crossbarref01_Must.calls k (IntKind.u64.wrap (wrap64 ((l0_9.length : Int) / 4))) 2 t816 _ A6.out).mono ?_); rintro e w20 ⟨v817, rfl, ho0, hb⟩; refine ⟨_, rfl, ?_⟩; have n0_ := Aside0.mk (Kd.R_elder' (pR HO812) (Kd.R_base ho0) hb); have n1_ := Aside0.mk (Kd.R_elder' (pR HO815) (Kd.R_base ho0) hb); have HO818 := Aside0.mk (Kd.R_lower (Kd.R_new' (Kd.R_new' ho0 (Kd.R_lt (pR HO812))) (Kd.R_lt (pR HO815))) (below_size (pB HB))); replace BK806 := bbE BK806 hb; replace HB := bstE HB hb; clear HO812; clear HO815; have HO812 := n0_; have HO815 := n1_; clear n0_ n1_; (try clear hb); (try clear hb2); (try clear hk); (try clear hi); (try clear ho0); obtain ⟨Ao22, co22, eo22⟩ := Kd.R_slice HO818.out; subst eo22) | ((with_reducible refine gate_builtin (b := .append) (xs := #[.tmp 16, .tmp 22]) rfl ?_); at_builtin; refine Kd.R_append_rows (Kd.int .u8) (w0 := w) w.heap.size rfl (.tmp 16) (.tmp 22) 22 5 (.int .u8 0) 1 rfl Try.underlying22 info5 rfl (by decide) (by omega) v814 y813 t816 _ _ _ (fun k_ => some k_ ≠ (.slice Ao18 t810.length co18 : Value).ownBlock ∧ some k_ ≠ (.slice Ao22 t816.length co22 : Value).ownBlock) (fun _ => False) rfl rfl ?aO ?aR (fun _ _ h => h) (fun _ h => h.elim) ?aF ?aB ?aS ?aL ?_; (case aR => exact cE (Kd.R_reads' HO818.out).2.2); (case aB => exact (pB HB)); (case aF => exact (fun k_ hk => ⟨Kd.fresh' (Kd.R_lt (pR HO812)) k_ hk, Kd.fresh' (Kd.R_lt (pR HO818)) k_ hk⟩)); (case aO => exact (pR HO815)); (case aS => exact (below_size (pB HB))); (case aL => have := LMc7.out; omega); intro v820 w21 ho hb hg hat; rw [← Ny819.out] at ho; replace BK806 := Aside0.mk (blk_grown (g := gb806) (o := .cells #[.bool true, .bool true, .bool a0_2, .int .i64 a0_3, .int .u16 a0_4, .int .u32 a0_5, .int .u32 a0_6, .slice A0_7 l0_7.length c0_7, .int .u16 a0_8, .slice A0_9 l0_9.length c0_9, .slice A0_10 l0_10.length c0_10, .int .i64 a0_11] 45 (0, 0)) (pk BK806) hg (Kd.R_ne HO815.out BK806.out (by decide))); replace HO812 := Aside0.mk (Kd.R_after (ok := (fun k_ => some k_ ≠ (.slice Ao22 t816.length co22 : Value).ownBlock)) (by (with_reducible repeat (first | apply Kd.R_alloc | apply Kd.R_drewN | apply Kd.R_drew)); exact Kd.R_mono HO812.out (fun _ hk => ⟨hk.2, hk.1.2⟩)) hg hat); replace HO818 := Aside0.mk (Kd.R_after (ok := (fun k_ => some k_ ≠ (.slice Ao18 t810.length co18 : Value).ownBlock)) (by (with_reducible repeat (first | apply Kd.R_alloc | apply Kd.R_drewN | apply Kd.R_drew)); exact Kd.R_mono HO818.out (fun _ hk => ⟨hk.1.2, hk.2⟩)) hg hat); replace HB := Aside0.mk (hb); have HO821 := Aside0.mk (ho); clear HO815; clear ho hb hg hat; obtain ⟨Z23_0, Z23_1, Z23_2, Z23_3, Z23_4, Z23_5, Z23_6, Z23_7, Z23_8, Z23_9, Z23_10, Z23_11, Y23_0, Y23_1, Y23_2, Y23_3, Y23_4, Y23_5, Y23_6, Y23_7, Y23_8, Y23_9, Y23_10, Y23_11⟩ := bc12 BK806.out) | ((with_reducible refine gate_builtin (b := .append) (xs := #[.tmp 24, .tmp 26]) rfl ?_); at_builtin; refine Kd.R_append_rows (Kd.int .u8) (w0 := w) w.heap.size rfl (.tmp 24) (.tmp 26) 22 5 (.int .u8 0) 1 rfl Try.underlying22 info5 rfl (by decide) (by omega) v820 y819 l0_9 _ _ _ (fun k_ => some k_ ≠ (.slice Ao18 t810.length co18 : Value).ownBlock ∧ some k_ ≠ (.slice Ao22 t816.length co22 : Value).ownBlock) (fun _ => False) rfl rfl ?aO ?aR (fun _ _ h => h) (fun _ h => h.elim) ?aF ?aB ?aS ?aL ?_; (case aR => exact cbE HR0_9 HB); (case aB => exact (pB HB)); (case aF => exact (fun k_ hk => ⟨Kd.fresh' (Kd.R_lt (pR HO812)) k_ hk, Kd.fresh' (Kd.R_lt (pR HO818)) k_ hk⟩)); (case aO => exact (pR HO821)); (case aS => exact (below_size (pB HB))); (case aL => have := LMc8.out; omega); intro v823 w24 ho hb hg hat; rw [← Ny822.out] at ho; replace BK806 := Aside0.mk (blk_grown (g := gb806) (o := .cells #[.bool true, .bool true, .bool a0_2, .int .i64 a0_3, .int .u16 a0_4, .int .u32 a0_5, .int .u32 a0_6, .slice A0_7 l0_7.length c0_7, .int .u16 a0_8, .slice A0_9 l0_9.length c0_9, .slice A0_10 l0_10.length c0_10, .int .i64 a0_11] 45 (0, 0)) (pk BK806) hg (Kd.R_ne HO821.out BK806.out (by decide))); replace HO812 := Aside0.mk (Kd.R_after (ok := (fun k_ => some k_ ≠ (.slice Ao22 t816.length co22 : Value).ownBlock)) (pR HO812) hg hat); replace HO818 := Aside0.mk (Kd.R_after (ok := (fun k_ => some k_ ≠ (.slice Ao18 t810.length co18 : Value).ownBlock)) (pR HO818) hg hat); replace HB := Aside0.mk (hb); have HO824 := Aside0.mk (ho); clear HO821; clear ho hb hg hat; obtain ⟨Z25_0, Z25_1, Z25_2, Z25_3, Z25_4, Z25_5, Z25_6, Z25_7, Z25_8, Z25_9, Z25_10, Z25_11, Y25_0, Y25_1, Y25_2, Y25_3, Y25_4, Y25_5, Y25_6, Y25_7, Y25_8, Y25_9, Y25_10, Y25_11⟩ := bc12 BK806.out) | ((with_reducible refine gate_builtin (b := .append) (xs := #[.tmp 28, .tmp 30]) rfl ?_); at_builtin; refine Kd.R_append_rows (Kd.int .u8) (w0 := w) w.heap.size rfl (.tmp 28) (.tmp 30) 22 5 (.int .u8 0) 1 rfl Try.underlying22 info5 rfl (by decide) (by omega) v823 y822 l0_10 _ _ _ (fun k_ => some k_ ≠ (.slice Ao18 t810.length co18 : Value).ownBlock ∧ some k_ ≠ (.slice Ao22 t816.length co22 : Value).ownBlock) (fun _ => False) rfl rfl ?aO ?aR (fun _ _ h => h) (fun _ h => h.elim) ?aF ?aB ?aS ?aL ?_; (case aR => exact cbE HR0_10 HB); (case aB => exact (pB HB)); (case aF => exact (fun k_ hk => ⟨Kd.fresh' (Kd.R_lt (pR HO812)) k_ hk, Kd.fresh' (Kd.R_lt (pR HO818)) k_ hk⟩)); (case aO => exact (pR HO824)); (case aS => exact (below_size (pB HB))); (case aL => have := LMc9.out; omega); intro v826 w26 ho hb hg hat; rw [← Ny825.out] at ho; replace BK806 := Aside0.mk (blk_grown (g := gb806) (o := .cells #[.bool true, .bool true, .bool a0_2, .int .i64 a0_3, .int .u16 a0_4, .int .u32 a0_5, .int .u32 a0_6, .slice A0_7 l0_7.length c0_7, .int .u16 a0_8, .slice A0_9 l0_9.length c0_9, .slice A0_10 l0_10.length c0_10, .int .i64 a0_11] 45 (0, 0)) (pk BK806) hg (Kd.R_ne HO824.out BK806.out (by decide))); replace HO812 := Aside0.mk (Kd.R_after (ok := (fun k_ => some k_ ≠ (.slice Ao22 t816.length co22 : Value).ownBlock)) (pR HO812) hg hat); replace HO818 := Aside0.mk (Kd.R_after (ok := (fun k_ => some k_ ≠ (.slice Ao18 t810.length co18 : Value).ownBlock)) (pR HO818) hg hat); replace HB := Aside0.mk (hb); have HO827 := Aside0.mk (ho); clear HO824; clear ho hb hg hat; obtain ⟨Z27_0, Z27_1, Z27_2, Z27_3, Z27_4, Z27_5, Z27_6, Z27_7, Z27_8, Z27_9, Z27_10, Z27_11, Y27_0, Y27_1, Y27_2, Y27_3, Y27_4, Y27_5, Y27_6, Y27_7, Y27_8, Y27_9, Y27_10, Y27_11⟩ := bc12 BK806.out; obtain ⟨Ao28, co28, eo28⟩ := Kd.R_slice HO827.out; subst eo28) | ((with_reducible refine gate_callee (f := 41) rfl ?_); refine goesL_ (some 38) rfl rfl Try.func41 (by kernel_rfl) rfl #[.slice Ao28 y825.length co28, .int .i64 a0_11] rfl (by (try simp only [List.map_toArray, List.map_cons, List.map_nil]); first | done | rfl | (simp only [List.length_drop, List.length_take]; rfl)) ?_; (with_reducible refine (crossbarref03_Add.calls k _ _ y825 a0_11 t828 _ ?side1 ?side2 A11.out).mono ?_); (case side1 => exact cE (Kd.R_reads' HO827.out).2.2); (case side2 => exact (Kd.R_reads' HO827.out).2.1); rintro e w29 ⟨v829, rfl, ho0, hb⟩; refine ⟨_, rfl, ?_⟩; have n0_ := Aside0.mk (Kd.R_elder' (pR HO812) (Kd.R_base ho0) hb); have n1_ := Aside0.mk (Kd.R_elder' (pR HO818) (Kd.R_base ho0) hb); have n2_ := Aside0.mk (Kd.R_elder' (pR HO827) (Kd.R_base ho0) hb); have HO830 := Aside0.mk (Kd.R_lower (Kd.R_new' (Kd.R_new' (Kd.R_new' ho0 (Kd.R_lt (pR HO812))) (Kd.R_lt (pR HO818))) (Kd.R_lt (pR HO827))) (below_size (pB HB))); replace BK806 := bbE BK806 hb; replace HB := bstE HB hb; clear HO812; clear HO818; clear HO827; have HO812 := n0_; have HO818 := n1_; have HO827 := n2_; clear n0_ n1_ n2_; (try clear hb); (try clear hb2); (try clear hk); (try clear hi); (try clear ho0)))
       go_ret
       exact ⟨_, by first | rfl | (simp [errW_none, errW_some] <;> rfl) | (simp [*, errW_none, errW_some] <;> rfl), by (with_reducible repeat (first | apply Kd.R_alloc | apply Kd.R_drewN | apply Kd.R_drew)); exact Kd.R_mono HO830.out (fun _ hk => trivial), by repeat (first | (with_reducible first | exact HB.out | apply below_alloc | apply pw_below_drewN | apply below_drew1 | refine below_set ?_ GE806.out) | exact HB.out)⟩
      replace c10 := Bool.eq_false_iff.mpr c10
      subst c10
      have H1 : (some y825) = some r := by rw [if_neg (show ¬ (false = true) by decide)] at H; exact H
      clear H
      have H := H1
      clear H1
      obtain rfl := Option.some.inj H
      go_enter Try.func25, Try.ntmps25
      go_wp2_with (first | ((with_reducible refine gate_dst (N := 1) rfl ?_); refine box_event ?hg (N := 1) ?hd (cs := #[.bool false, .bool true, .bool a0_2, .int .i64 a0_3, .int .u16 a0_4, .int .u32 a0_5, .int .u32 a0_6, .slice A0_7 l0_7.length c0_7, .int .u16 a0_8, .slice A0_9 l0_9.length c0_9, .slice A0_10 l0_10.length c0_10, .int .i64 a0_11]) (t := 45) ?hr ?_; (case hd => rfl); (case hg => rfl); (case hr => first | (go_simp; done) | (go_simp; rfl)); intro gb806 hg w30 hbox hb; have n0_ := bstE HB hb; have BK806 := Aside0.mk (hbox); have GW806 := geE hg HB; have GE806 := geE hg HB; clear HB; have HB := n0_; clear n0_; clear hb hbox hg; obtain ⟨Z31_0, Z31_1, Z31_2, Z31_3, Z31_4, Z31_5, Z31_6, Z31_7, Z31_8, Z31_9, Z31_10, Z31_11, Y31_0, Y31_1, Y31_2, Y31_3, Y31_4, Y31_5, Y31_6, Y31_7, Y31_8, Y31_9, Y31_10, Y31_11⟩ := bc12 BK806.out) | ((with_reducible refine gate_callee (f := 39) rfl ?_); refine goesL_ (some 6) rfl rfl Try.func39 (by kernel_rfl) rfl #[.agg #[.bool false, .bool true, .bool a0_2, .int .i64 a0_3, .int .u16 a0_4, .int .u32 a0_5, .int .u32 a0_6, .slice A0_7 l0_7.length c0_7]] rfl (by (try simp only [List.map_toArray, List.map_cons, List.map_nil]); first | done | rfl | (simp only [List.length_drop, List.length_take]; rfl)) ?_; (with_reducible refine (crossbarref05_Write.calls k false true a0_2 a0_3 a0_4 a0_5 a0_6 _ _ l0_7 t807 _ ?side1 ?side2 A2.out).mono ?_); (case side1 => exact cbE HR0_7 HB); (case side2 => exact HC0_7.out); rintro e w32 ⟨v808, rfl, ho0, hb⟩; refine ⟨_, rfl, ?_⟩; have HO809 := Aside0.mk (Kd.R_lower ho0 (below_size (pB HB))); replace BK806 := bbE BK806 hb; replace HB := bstE HB hb; (try clear hb); (try clear hb2); (try clear hk); (try clear hi); (try clear ho0); obtain ⟨Z33_0, Z33_1, Z33_2, Z33_3, Z33_4, Z33_5, Z33_6, Z33_7, Z33_8, Z33_9, Z33_10, Z33_11, Y33_0, Y33_1, Y33_2, Y33_3, Y33_4, Y33_5, Y33_6, Y33_7, Y33_8, Y33_9, Y33_10, Y33_11⟩ := bc12 BK806.out) | ((with_reducible refine gate_callee (f := 40) rfl ?_); refine goesL_ (some 14) rfl rfl Try.func40 (by kernel_rfl) rfl #[.int .u64 (IntKind.u64.wrap (a0_8)), .int .i64 2] rfl (by (try simp only [List.map_toArray, List.map_cons, List.map_nil]); first | done | rfl | (simp only [List.length_drop, List.length_take]; rfl)) ?_; (with_reducible refine (crossbarref01_Must.calls k (IntKind.u64.wrap (a0_8)) 2 t810 _ A4.out).mono ?_); rintro e w34 ⟨v811, rfl, ho0, hb⟩; refine ⟨_, rfl, ?_⟩; have n0_ := Aside0.mk (Kd.R_elder' (pR HO809) (Kd.R_base ho0) hb); have HO812 := Aside0.mk (Kd.R_lower (Kd.R_new' ho0 (Kd.R_lt (pR HO809))) (below_size (pB HB))); replace BK806 := bbE BK806 hb; replace HB := bstE HB hb; clear HO809; have HO809 := n0_; clear n0_; (try clear hb); (try clear hb2); (try clear hk); (try clear hi); (try clear ho0); obtain ⟨Ao36, co36, eo36⟩ := Kd.R_slice HO812.out; subst eo36) | ((with_reducible refine gate_builtin (b := .append) (xs := #[.tmp 10, .tmp 14]) rfl ?_); at_builtin; refine Kd.R_append_rows (Kd.int .u8) (w0 := w) w.heap.size rfl (.tmp 10) (.tmp 14) 22 5 (.int .u8 0) 1 rfl Try.underlying22 info5 rfl (by decide) (by omega) v808 t807 t810 _ _ _ (fun k_ => some k_ ≠ (.slice Ao36 t810.length co36 : Value).ownBlock) (fun _ => False) rfl rfl ?aO ?aR (fun _ _ h => h) (fun _ h => h.elim) ?aF ?aB ?aS ?aL ?_; (case aR => exact cE (Kd.R_reads' HO812.out).2.2); (case aB => exact (pB HB)); (case aF => exact (fun k_ hk => Kd.fresh' (Kd.R_lt (pR HO812)) k_ hk)); (case aO => exact (by (with_reducible repeat (first | apply Kd.R_alloc | apply Kd.R_drewN | apply Kd.R_drew)); exact Kd.R_mono HO809.out (fun _ hk => hk.2))); (case aS => exact (below_size (pB HB))); (case aL => have := LMc5.out; omega); intro v814 w35 ho hb hg hat; rw [← Ny813.out] at ho; replace BK806 := Aside0.mk (blk_grown (g := gb806) (o := .cells #[.bool false, .bool true, .bool a0_2, .int .i64 a0_3, .int .u16 a0_4, .int .u32 a0_5, .int .u32 a0_6, .slice A0_7 l0_7.length c0_7, .int .u16 a0_8, .slice A0_9 l0_9.length c0_9, .slice A0_10 l0_10.length c0_10, .int .i64 a0_11] 45 (0, 0)) (pk BK806) hg (Kd.R_ne HO809.out BK806.out (by decide))); replace HO812 := Aside0.mk (Kd.R_after (ok := (fun _ => True)) (pR HO812) hg hat); replace HB := Aside0.mk (hb); have HO815 := Aside0.mk (ho); clear HO809; clear ho hb hg hat; obtain ⟨Z37_0, Z37_1, Z37_2, Z37_3, Z37_4, Z37_5, Z37_6, Z37_7, Z37_8, Z37_9, Z37_10, Z37_11, Y37_0, Y37_1, Y37_2, Y37_3, Y37_4, Y37_5, Y37_6, Y37_7, Y37_8, Y37_9, Y37_10, Y37_11⟩ := bc12 BK806.out) | ((with_reducible refine gate_callee (f := 40) rfl ?_); refine goesL_ (some 22) rfl rfl Try.func40 (by kernel_rfl) rfl #[.int .u64 (IntKind.u64.wrap (wrap64 ((l0_9.length : Int) / 4))), .int .i64 2] rfl (by (try simp only [List.map_toArray, List.map_cons, List.map_nil]); first | done | rfl | (simp only [List.length_drop, List.length_take]; rfl)) ?_; (with_reducible refine (crossbarref01_Must.calls k (IntKind.u64.wrap (wrap64 ((l0_9.length : Int) / 4))) 2 t816 _ A6.out).mono ?_); rintro e w38 ⟨v817, rfl, ho0, hb⟩; refine ⟨_, rfl, ?_⟩; have n0_ := Aside0.mk (Kd.R_elder' (pR HO812) (Kd.R_base ho0) hb); have n1_ := Aside0.mk (Kd.R_elder' (pR HO815) (Kd.R_base ho0) hb); have HO818 := Aside0.mk (Kd.R_lower (Kd.R_new' (Kd.R_new' ho0 (Kd.R_lt (pR HO812))) (Kd.R_lt (pR HO815))) (below_size (pB HB))); replace BK806 := bbE BK806 hb; replace HB := bstE HB hb; clear HO812; clear HO815; have HO812 := n0_; have HO815 := n1_; clear n0_ n1_; (try clear hb); (try clear hb2); (try clear hk); (try clear hi); (try clear ho0); obtain ⟨Ao40, co40, eo40⟩ := Kd.R_slice HO818.out; subst eo40) | ((with_reducible refine gate_builtin (b := .append) (xs := #[.tmp 16, .tmp 22]) rfl ?_); at_builtin; refine Kd.R_append_rows (Kd.int .u8) (w0 := w) w.heap.size rfl (.tmp 16) (.tmp 22) 22 5 (.int .u8 0) 1 rfl Try.underlying22 info5 rfl (by decide) (by omega) v814 y813 t816 _ _ _ (fun k_ => some k_ ≠ (.slice Ao36 t810.length co36 : Value).ownBlock ∧ some k_ ≠ (.slice Ao40 t816.length co40 : Value).ownBlock) (fun _ => False) rfl rfl ?aO ?aR (fun _ _ h => h) (fun _ h => h.elim) ?aF ?aB ?aS ?aL ?_; (case aR => exact cE (Kd.R_reads' HO818.out).2.2); (case aB => exact (pB HB)); (case aF => exact (fun k_ hk => ⟨Kd.fresh' (Kd.R_lt (pR HO812)) k_ hk, Kd.fresh' (Kd.R_lt (pR HO818)) k_ hk⟩)); (case aO => exact (pR HO815)); (case aS => exact (below_size (pB HB))); (case aL => have := LMc7.out; omega); intro v820 w39 ho hb hg hat; rw [← Ny819.out] at ho; replace BK806 := Aside0.mk (blk_grown (g := gb806) (o := .cells #[.bool false, .bool true, .bool a0_2, .int .i64 a0_3, .int .u16 a0_4, .int .u32 a0_5, .int .u32 a0_6, .slice A0_7 l0_7.length c0_7, .int .u16 a0_8, .slice A0_9 l0_9.length c0_9, .slice A0_10 l0_10.length c0_10, .int .i64 a0_11] 45 (0, 0)) (pk BK806) hg (Kd.R_ne HO815.out BK806.out (by decide))); replace HO812 := Aside0.mk (Kd.R_after (ok := (fun k_ => some k_ ≠ (.slice Ao40 t816.length co40 : Value).ownBlock)) (by (with_reducible repeat (first | apply Kd.R_alloc | apply Kd.R_drewN | apply Kd.R_drew)); exact Kd.R_mono HO812.out (fun _ hk => ⟨hk.2, hk.1.2⟩)) hg hat); replace HO818 := Aside0.mk (Kd.R_after (ok := (fun k_ => some k_ ≠ (.slice Ao36 t810.length co36 : Value).ownBlock)) (by (with_reducible repeat (first | apply Kd.R_alloc | apply Kd.R_drewN | apply Kd.R_drew)); exact Kd.R_mono HO818.out (fun _ hk => ⟨hk.1.2, hk.2⟩)) hg hat); replace HB := Aside0.mk (hb); have HO821 := Aside0.mk (ho); clear HO815; clear ho hb hg hat; obtain ⟨Z41_0, Z41_1, Z41_2, Z41_3, Z41_4, Z41_5, Z41_6, Z41_7, Z41_8, Z41_9, Z41_10, Z41_11, Y41_0, Y41_1, Y41_2, Y41_3, Y41_4, Y41_5, Y41_6, Y41_7, Y41_8, Y41_9, Y41_10, Y41_11⟩ := bc12 BK806.out) | ((with_reducible refine gate_builtin (b := .append) (xs := #[.tmp 24, .tmp 26]) rfl ?_); at_builtin; refine Kd.R_append_rows (Kd.int .u8) (w0 := w) w.heap.size rfl (.tmp 24) (.tmp 26) 22 5 (.int .u8 0) 1 rfl Try.underlying22 info5 rfl (by decide) (by omega) v820 y819 l0_9 _ _ _ (fun k_ => some k_ ≠ (.slice Ao36 t810.length co36 : Value).ownBlock ∧ some k_ ≠ (.slice Ao40 t816.length co40 : Value).ownBlock) (fun _ => False) rfl rfl ?aO ?aR (fun _ _ h => h) (fun _ h => h.elim) ?aF ?aB ?aS ?aL ?_; (case aR => exact cbE HR0_9 HB); (case aB => exact (pB HB)); (case aF => exact (fun k_ hk => ⟨Kd.fresh' (Kd.R_lt (pR HO812)) k_ hk, Kd.fresh' (Kd.R_lt (pR HO818)) k_ hk⟩)); (case aO => exact (pR HO821)); (case aS => exact (below_size (pB HB))); (case aL => have := LMc8.out; omega); intro v823 w42 ho hb hg hat; rw [← Ny822.out] at ho; replace BK806 := Aside0.mk (blk_grown (g := gb806) (o := .cells #[.bool false, .bool true, .bool a0_2, .int .i64 a0_3, .int .u16 a0_4, .int .u32 a0_5, .int .u32 a0_6, .slice A0_7 l0_7.length c0_7, .int .u16 a0_8, .slice A0_9 l0_9.length c0_9, .slice A0_10 l0_10.length c0_10, .int .i64 a0_11] 45 (0, 0)) (pk BK806) hg (Kd.R_ne HO821.out BK806.out (by decide))); replace HO812 := Aside0.mk (Kd.R_after (ok := (fun k_ => some k_ ≠ (.slice Ao40 t816.length co40 : Value).ownBlock)) (pR HO812) hg hat); replace HO818 := Aside0.mk (Kd.R_after (ok := (fun k_ => some k_ ≠ (.slice Ao36 t810.length co36 : Value).ownBlock)) (pR HO818) hg hat); replace HB := Aside0.mk (hb); have HO824 := Aside0.mk (ho); clear HO821; clear ho hb hg hat; obtain ⟨Z43_0, Z43_1, Z43_2, Z43_3, Z43_4, Z43_5, Z43_6, Z43_7, Z43_8, Z43_9, Z43_10, Z43_11, Y43_0, Y43_1, Y43_2, Y43_3, Y43_4, Y43_5, Y43_6, Y43_7, Y43_8, Y43_9, Y43_10, Y43_11⟩ := bc12 BK806.out) | ((with_reducible refine gate_builtin (b := .append) (xs := #[.tmp 28, .tmp 30]) rfl ?_); at_builtin; refine Kd.R_append_rows (Kd.int .u8) (w0 := w) w.heap.size rfl (.tmp 28) (.tmp 30) 22 5 (.int .u8 0) 1 rfl Try.underlying22 info5 rfl (by decide) (by omega) v823 y822 l0_10 _ _ _ (fun k_ => some k_ ≠ (.slice Ao36 t810.length co36 : Value).ownBlock ∧ some k_ ≠ (.slice Ao40 t816.length co40 : Value).ownBlock) (fun _ => False) rfl rfl ?aO ?aR (fun _ _ h => h) (fun _ h => h.elim) ?aF ?aB ?aS ?aL ?_; (case aR => exact cbE HR0_10 HB); (case aB => exact (pB HB)); (case aF => exact (fun k_ hk => ⟨Kd.fresh' (Kd.R_lt (pR HO812)) k_ hk, Kd.fresh' (Kd.R_lt (pR HO818)) k_ hk⟩)); (case aO => exact (pR HO824)); (case aS => exact (below_size (pB HB))); (case aL => have := LMc9.out; omega); intro v826 w44 ho hb hg hat; rw [← Ny825.out] at ho; replace BK806 := Aside0.mk (blk_grown (g := gb806) (o := .cells #[.bool false, .bool true, .bool a0_2, .int .i64 a0_3, .int .u16 a0_4, .int .u32 a0_5, .int .u32 a0_6, .slice A0_7 l0_7.length c0_7, .int .u16 a0_8, .slice A0_9 l0_9.length c0_9, .slice A0_10 l0_10.length c0_10, .int .i64 a0_11] 45 (0, 0)) (pk BK806) hg (Kd.R_ne HO824.out BK806.out (by decide))); replace HO812 := Aside0.mk (Kd.R_after (ok := (fun k_ => some k_ ≠ (.slice Ao40 t816.length co40 : Value).ownBlock)) (pR HO812) hg hat); replace HO818 := Aside0.mk (Kd.R_after (ok := (fun k_ => some k_ ≠ (.slice Ao36 t810.length co36 : Value).ownBlock)) (pR HO818) hg hat); replace HB := Aside0.mk (hb); have HO827 := Aside0.mk (ho); clear HO824; clear ho hb hg hat; obtain ⟨Z45_0, Z45_1, Z45_2, Z45_3, Z45_4, Z45_5, Z45_6, Z45_7, Z45_8, Z45_9, Z45_10, Z45_11, Y45_0, Y45_1, Y45_2, Y45_3, Y45_4, Y45_5, Y45_6, Y45_7, Y45_8, Y45_9, Y45_10, Y45_11⟩ := bc12 BK806.out))
      go_ret
      exact ⟨_, by first | rfl | (simp [errW_none, errW_some] <;> rfl) | (simp [*, errW_none, errW_some] <;> rfl), by (with_reducible repeat (first | apply Kd.R_alloc | apply Kd.R_drewN | apply Kd.R_drew)); exact Kd.R_mono HO827.out (fun _ hk => trivial), by repeat (first | (with_reducible first | exact HB.out | apply below_alloc | apply pw_below_drewN | apply below_drew1 | refine below_set ?_ GE806.out) | exact HB.out)⟩
     rw [if_neg c9] at H
     exact absurd H (by simp)
    rw [if_neg c8] at H
    exact absurd H (by simp)
   rw [if_neg c7] at H
   exact absurd H (by simp)
  rw [if_neg c5] at H
  exact absurd H (by simp)
 replace c3 := Bool.eq_false_iff.mpr c3
 subst c3
 have H1 : (if t807.length + l0_10.length < 140737488355328 then ((some (t807 ++ l0_10 : List Int)).bind fun y831 => (if a0_0 = true then ((crossbarref03_Add.f k y831 a0_11).bind fun t834 => (some t834)) else (some y831))) else (none)) = some r := by rw [if_neg (show ¬ (false = true) by decide)] at H; exact H
 clear H
 have H := H1
 clear H1
 by_cases c46 : t807.length + l0_10.length < 140737488355328
 ·rw [if_pos c46] at H
  have LMc46 := Aside0.mk c46
  clear c46
  obtain ⟨y831, hy831⟩ : ∃ y_ : List Int, y_ = (t807 ++ l0_10) := ⟨_, rfl⟩
  replace H : (if a0_0 = true then ((crossbarref03_Add.f k y831 a0_11).bind fun t834 => (some t834)) else (some y831)) = some r := by first | (rw [hy831]; with_reducible exact H) | (have H2_ := (Option.bind_some _ _).symm.trans H; rw [hy831]; with_reducible exact H2_) | (have H2_ := (Option.bind_some _ _).symm.trans H; with_reducible exact H2_) | with_reducible exact H | (rw [hy831]; exact H) | exact H
  have Ny831 := Aside0.mk hy831
  clear hy831
  by_cases c47 : a0_0 = true
  ·subst c47
   have H1 : ((crossbarref03_Add.f k y831 a0_11).bind fun t834 => (some t834)) = some r := by rw [if_pos rfl] at H; exact H
   clear H
   have H := H1
   clear H1
   replace H := Option.bind_eq_some_iff.mp H
   obtain ⟨t834, A480, H⟩ := H
   replace H : (some t834) = some r := H
   have A48 := Aside0.mk A480
   clear A480
   obtain rfl := Option.some.inj H
   go_enter Try.func25, Try.ntmps25
   go_wp2_with (first | ((with_reducible refine gate_dst (N := 1) rfl ?_); refine box_event ?hg (N := 1) ?hd (cs := #[.bool true, .bool false, .bool a0_2, .int .i64 a0_3, .int .u16 a0_4, .int .u32 a0_5, .int .u32 a0_6, .slice A0_7 l0_7.length c0_7, .int .u16 a0_8, .slice A0_9 l0_9.length c0_9, .slice A0_10 l0_10.length c0_10, .int .i64 a0_11]) (t := 45) ?hr ?_; (case hd => rfl); (case hg => rfl); (case hr => first | (go_simp; done) | (go_simp; rfl)); intro gb806 hg w49 hbox hb; have n0_ := bstE HB hb; have BK806 := Aside0.mk (hbox); have GW806 := geE hg HB; have GE806 := geE hg HB; clear HB; have HB := n0_; clear n0_; clear hb hbox hg; obtain ⟨Z50_0, Z50_1, Z50_2, Z50_3, Z50_4, Z50_5, Z50_6, Z50_7, Z50_8, Z50_9, Z50_10, Z50_11, Y50_0, Y50_1, Y50_2, Y50_3, Y50_4, Y50_5, Y50_6, Y50_7, Y50_8, Y50_9, Y50_10, Y50_11⟩ := bc12 BK806.out) | ((with_reducible refine gate_callee (f := 39) rfl ?_); refine goesL_ (some 6) rfl rfl Try.func39 (by kernel_rfl) rfl #[.agg #[.bool true, .bool false, .bool a0_2, .int .i64 a0_3, .int .u16 a0_4, .int .u32 a0_5, .int .u32 a0_6, .slice A0_7 l0_7.length c0_7]] rfl (by (try simp only [List.map_toArray, List.map_cons, List.map_nil]); first | done | rfl | (simp only [List.length_drop, List.length_take]; rfl)) ?_; (with_reducible refine (crossbarref05_Write.calls k true false a0_2 a0_3 a0_4 a0_5 a0_6 _ _ l0_7 t807 _ ?side1 ?side2 A2.out).mono ?_); (case side1 => exact cbE HR0_7 HB); (case side2 => exact HC0_7.out); rintro e w51 ⟨v808, rfl, ho0, hb⟩; refine ⟨_, rfl, ?_⟩; have HO809 := Aside0.mk (Kd.R_lower ho0 (below_size (pB HB))); replace BK806 := bbE BK806 hb; replace HB := bstE HB hb; (try clear hb); (try clear hb2); (try clear hk); (try clear hi); (try clear ho0); obtain ⟨Z52_0, Z52_1, Z52_2, Z52_3, Z52_4, Z52_5, Z52_6, Z52_7, Z52_8, Z52_9, Z52_10, Z52_11, Y52_0, Y52_1, Y52_2, Y52_3, Y52_4, Y52_5, Y52_6, Y52_7, Y52_8, Y52_9, Y52_10, Y52_11⟩ := bc12 BK806.out) | ((with_reducible refine gate_builtin (b := .append) (xs := #[.tmp 28, .tmp 30]) rfl ?_); at_builtin; refine Kd.R_append_rows (Kd.int .u8) (w0 := w) w.heap.size rfl (.tmp 28) (.tmp 30) 22 5 (.int .u8 0) 1 rfl Try.underlying22 info5 rfl (by decide) (by omega) v808 t807 l0_10 _ _ _ (fun _ => True) (fun _ => False) rfl rfl ?aO ?aR (fun _ _ h => h) (fun _ h => h.elim) ?aF ?aB ?aS ?aL ?_; (case aR => exact cbE HR0_10 HB); (case aB => exact (pB HB)); (case aF => exact (fun _ _ => trivial)); (case aO => exact (pR HO809)); (case aS => exact (below_size (pB HB))); (case aL => have := LMc46.out; omega); intro v832 w53 ho hb hg hat; rw [← Ny831.out] at ho; replace BK806 := Aside0.mk (blk_grown (g := gb806) (o := .cells #[.bool true, .bool false, .bool a0_2, .int .i64 a0_3, .int .u16 a0_4, .int .u32 a0_5, .int .u32 a0_6, .slice A0_7 l0_7.length c0_7, .int .u16 a0_8, .slice A0_9 l0_9.length c0_9, .slice A0_10 l0_10.length c0_10, .int .i64 a0_11] 45 (0, 0)) (pk BK806) hg (Kd.R_ne HO809.out BK806.out (by decide))); replace HB := Aside0.mk (hb); have HO833 := Aside0.mk (ho); clear HO809; clear ho hb hg hat; obtain ⟨Z54_0, Z54_1, Z54_2, Z54_3, Z54_4, Z54_5, Z54_6, Z54_7, Z54_8, Z54_9, Z54_10, Z54_11, Y54_0, Y54_1, Y54_2, Y54_3, Y54_4, Y54_5, Y54_6, Y54_7, Y54_8, Y54_9, Y54_10, Y54_11⟩ := bc12 BK806.out; obtain ⟨Ao55, co55, eo55⟩ := Kd.R_slice HO833.out; subst eo55) | ((with_reducible refine gate_callee (f := 41) rfl ?_); refine goesL_ (some 38) rfl rfl Try.func41 (by kernel_rfl) rfl #[.slice Ao55 y831.length co55, .int .i64 a0_11] rfl (by (try simp only [List.map_toArray, List.map_cons, List.map_nil]); first | done | rfl | (simp only [List.length_drop, List.length_take]; rfl)) ?_; (with_reducible refine (crossbarref03_Add.calls k _ _ y831 a0_11 t834 _ ?side1 ?side2 A48.out).mono ?_); (case side1 => exact cE (Kd.R_reads' HO833.out).2.2); (case side2 => exact (Kd.R_reads' HO833.out).2.1); rintro e w56 ⟨v835, rfl, ho0, hb⟩; refine ⟨_, rfl, ?_⟩; have n0_ := Aside0.mk (Kd.R_elder' (pR HO833) (Kd.R_base ho0) hb); have HO836 := Aside0.mk (Kd.R_lower (Kd.R_new' ho0 (Kd.R_lt (pR HO833))) (below_size (pB HB))); replace BK806 := bbE BK806 hb; replace HB := bstE HB hb; clear HO833; have HO833 := n0_; clear n0_; (try clear hb); (try clear hb2); (try clear hk); (try clear hi); (try clear ho0)))
   go_ret
   exact ⟨_, by first | rfl | (simp [errW_none, errW_some] <;> rfl) | (simp [*, errW_none, errW_some] <;> rfl), by (with_reducible repeat (first | apply Kd.R_alloc | apply Kd.R_drewN | apply Kd.R_drew)); exact Kd.R_mono HO836.out (fun _ hk => trivial), by repeat (first | (with_reducible first | exact HB.out | apply below_alloc | apply pw_below_drewN | apply below_drew1 | refine below_set ?_ GE806.out) | exact HB.out)⟩
  replace c47 := Bool.eq_false_iff.mpr c47
  subst c47
  have H1 : (some y831) = some r := by rw [if_neg (show ¬ (false = true) by decide)] at H; exact H
  clear H
  have H := H1
  clear H1
  obtain rfl := Option.some.inj H
  go_enter Try.func25, Try.ntmps25
  go_wp2_with (first | ((with_reducible refine gate_dst (N := 1) rfl ?_); refine box_event ?hg (N := 1) ?hd (cs := #[.bool false, .bool false, .bool a0_2, .int .i64 a0_3, .int .u16 a0_4, .int .u32 a0_5, .int .u32 a0_6, .slice A0_7 l0_7.length c0_7, .int .u16 a0_8, .slice A0_9 l0_9.length c0_9, .slice A0_10 l0_10.length c0_10, .int .i64 a0_11]) (t := 45) ?hr ?_; (case hd => rfl); (case hg => rfl); (case hr => first | (go_simp; done) | (go_simp; rfl)); intro gb806 hg w57 hbox hb; have n0_ := bstE HB hb; have BK806 := Aside0.mk (hbox); have GW806 := geE hg HB; have GE806 := geE hg HB; clear HB; have HB := n0_; clear n0_; clear hb hbox hg; obtain ⟨Z58_0, Z58_1, Z58_2, Z58_3, Z58_4, Z58_5, Z58_6, Z58_7, Z58_8, Z58_9, Z58_10, Z58_11, Y58_0, Y58_1, Y58_2, Y58_3, Y58_4, Y58_5, Y58_6, Y58_7, Y58_8, Y58_9, Y58_10, Y58_11⟩ := bc12 BK806.out) | ((with_reducible refine gate_callee (f := 39) rfl ?_); refine goesL_ (some 6) rfl rfl Try.func39 (by kernel_rfl) rfl #[.agg #[.bool false, .bool false, .bool a0_2, .int .i64 a0_3, .int .u16 a0_4, .int .u32 a0_5, .int .u32 a0_6, .slice A0_7 l0_7.length c0_7]] rfl (by (try simp only [List.map_toArray, List.map_cons, List.map_nil]); first | done | rfl | (simp only [List.length_drop, List.length_take]; rfl)) ?_; (with_reducible refine (crossbarref05_Write.calls k false false a0_2 a0_3 a0_4 a0_5 a0_6 _ _ l0_7 t807 _ ?side1 ?side2 A2.out).mono ?_); (case side1 => exact cbE HR0_7 HB); (case side2 => exact HC0_7.out); rintro e w59 ⟨v808, rfl, ho0, hb⟩; refine ⟨_, rfl, ?_⟩; have HO809 := Aside0.mk (Kd.R_lower ho0 (below_size (pB HB))); replace BK806 := bbE BK806 hb; replace HB := bstE HB hb; (try clear hb); (try clear hb2); (try clear hk); (try clear hi); (try clear ho0); obtain ⟨Z60_0, Z60_1, Z60_2, Z60_3, Z60_4, Z60_5, Z60_6, Z60_7, Z60_8, Z60_9, Z60_10, Z60_11, Y60_0, Y60_1, Y60_2, Y60_3, Y60_4, Y60_5, Y60_6, Y60_7, Y60_8, Y60_9, Y60_10, Y60_11⟩ := bc12 BK806.out) | ((with_reducible refine gate_builtin (b := .append) (xs := #[.tmp 28, .tmp 30]) rfl ?_); at_builtin; refine Kd.R_append_rows (Kd.int .u8) (w0 := w) w.heap.size rfl (.tmp 28) (.tmp 30) 22 5 (.int .u8 0) 1 rfl Try.underlying22 info5 rfl (by decide) (by omega) v808 t807 l0_10 _ _ _ (fun _ => True) (fun _ => False) rfl rfl ?aO ?aR (fun _ _ h => h) (fun _ h => h.elim) ?aF ?aB ?aS ?aL ?_; (case aR => exact cbE HR0_10 HB); (case aB => exact (pB HB)); (case aF => exact (fun _ _ => trivial)); (case aO => exact (pR HO809)); (case aS => exact (below_size (pB HB))); (case aL => have := LMc46.out; omega); intro v832 w61 ho hb hg hat; rw [← Ny831.out] at ho; replace BK806 := Aside0.mk (blk_grown (g := gb806) (o := .cells #[.bool false, .bool false, .bool a0_2, .int .i64 a0_3, .int .u16 a0_4, .int .u32 a0_5, .int .u32 a0_6, .slice A0_7 l0_7.length c0_7, .int .u16 a0_8, .slice A0_9 l0_9.length c0_9, .slice A0_10 l0_10.length c0_10, .int .i64 a0_11] 45 (0, 0)) (pk BK806) hg (Kd.R_ne HO809.out BK806.out (by decide))); replace HB := Aside0.mk (hb); have HO833 := Aside0.mk (ho); clear HO809; clear ho hb hg hat; obtain ⟨Z62_0, Z62_1, Z62_2, Z62_3, Z62_4, Z62_5, Z62_6, Z62_7, Z62_8, Z62_9, Z62_10, Z62_11, Y62_0, Y62_1, Y62_2, Y62_3, Y62_4, Y62_5, Y62_6, Y62_7, Y62_8, Y62_9, Y62_10, Y62_11⟩ := bc12 BK806.out))
  go_ret
  exact ⟨_, by first | rfl | (simp [errW_none, errW_some] <;> rfl) | (simp [*, errW_none, errW_some] <;> rfl), by (with_reducible repeat (first | apply Kd.R_alloc | apply Kd.R_drewN | apply Kd.R_drew)); exact HO833.out, by repeat (first | (with_reducible first | exact HB.out | apply below_alloc | apply pw_below_drewN | apply below_drew1 | refine below_set ?_ GE806.out) | exact HB.out)⟩
 rw [if_neg c46] at H
 exact absurd H (by simp)
def crossbarref06_Canon.f (k : Nat) (l0 : List Int) : Option (Bool) := (crossbarref06_Read.f k l0).bind fun bt837 => (if bt837.2.2.2.2.2.2.2.2.2.2.2.2 = 0 then ((crossbarref06_Write.f k bt837.1 bt837.2.1 bt837.2.2.1 bt837.2.2.2.1 bt837.2.2.2.2.1 bt837.2.2.2.2.2.1 bt837.2.2.2.2.2.2.1 bt837.2.2.2.2.2.2.2.1 bt837.2.2.2.2.2.2.2.2.1 bt837.2.2.2.2.2.2.2.2.2.1 bt837.2.2.2.2.2.2.2.2.2.2.1 bt837.2.2.2.2.2.2.2.2.2.2.2.1).bind fun t857 => (some ((strOfNums t857).toList == (strOfNums l0).toList))) else (some false))
def crossbarref06_Canon.T2 : Bool × List (List Nat × List Nat) := (true, [([], []), ([0], [0]), ([1], [1]), ([2], [2]), ([3, 2, 2], [2, 3]), ([4, 2], [2, 4]), ([2], [2]), ([6, 2], [2, 6]), ([5, 7, 2], [2, 5, 7]), ([2, 8], [2, 8]), ([9, 4, 0, 1, 2, 3, 4, 5, 6, 7, 8, 9], [9])])
def crossbarref06_Canon.B2 : List Nat := [0, 1, 3, 7, 15, 31, 7, 71, 255, 511, 1023]
theorem crossbarref06_Canon.tab2 : rtab .any (opsOf Try.f29 2) = crossbarref06_Canon.T2 := by kernel_rfl
theorem crossbarref06_Canon.bits2 : waitsOk crossbarref06_Canon.T2.2 crossbarref06_Canon.B2 = true := by kernel_rfl
set_option maxHeartbeats 8000000 in
set_option maxRecDepth 100000 in
theorem crossbarref06_Canon.calls (k : Nat) (A0 : Option Addr) (c0 : Nat) (l0 : List Int) (r : Bool) (w : World) (hr0 : Kd.C (Kd.int .u8) w A0 l0.length l0) (hc0 : l0.length ≤ c0) (h : crossbarref06_Canon.f k l0 = some r) :
  Calls Try.prog 29 #[.slice A0 l0.length c0] w fun e w' => e = .returned (.bool r) ∧ Below w.heap.size w w' := by
 have hu45 := Try.underlying45
 have HR0 := Aside0.mk hr0
 have HC0 := Aside0.mk hc0
 clear hr0 hc0
 have HB := Aside0.mk (Below.refl w.heap.size w)
 have H : ((crossbarref06_Read.f k l0).bind fun bt837 => (if bt837.2.2.2.2.2.2.2.2.2.2.2.2 = 0 then ((crossbarref06_Write.f k bt837.1 bt837.2.1 bt837.2.2.1 bt837.2.2.2.1 bt837.2.2.2.2.1 bt837.2.2.2.2.2.1 bt837.2.2.2.2.2.2.1 bt837.2.2.2.2.2.2.2.1 bt837.2.2.2.2.2.2.2.2.1 bt837.2.2.2.2.2.2.2.2.2.1 bt837.2.2.2.2.2.2.2.2.2.2.1 bt837.2.2.2.2.2.2.2.2.2.2.2.1).bind fun t857 => (some ((strOfNums t857).toList == (strOfNums l0).toList))) else (some false))) = some r := h
 clear h
 replace H := Option.bind_eq_some_iff.mp H
 obtain ⟨⟨t837, t838, t839, t840, t841, t842, t843, t844, t847, t848, t851, t854, t855⟩, A20, H⟩ := H
 replace H : (if t855 = 0 then ((crossbarref06_Write.f k t837 t838 t839 t840 t841 t842 t843 t844 t847 t848 t851 t854).bind fun t857 => (some ((strOfNums t857).toList == (strOfNums l0).toList))) else (some false)) = some r := H
 have A2 := Aside0.mk A20
 clear A20
 by_cases c3 : t855 = 0
 ·rw [if_pos c3] at H
  have c3b0 : (t855 == 0) = true := beq_iff_eq.mpr c3
  have c3b1 : (t855 != 0) = false := bne_eq_false_iff_eq.mpr c3
  clear c3
  replace H := Option.bind_eq_some_iff.mp H
  obtain ⟨t857, A40, H⟩ := H
  replace H : (some ((strOfNums t857).toList == (strOfNums l0).toList)) = some r := H
  have A4 := Aside0.mk A40
  clear A40
  obtain rfl := Option.some.inj H
  go_enter Try.func29, Try.ntmps29
  try go_wp2_with (first | ((with_reducible refine gate_callee (f := 26) rfl ?_); refine goesL_ (some 7) rfl rfl Try.func26 (by kernel_rfl) rfl #[.slice A0 l0.length c0] rfl (by (try simp only [List.map_toArray, List.map_cons, List.map_nil]); first | done | rfl | (simp only [List.length_drop, List.length_take]; rfl)) ?_; (with_reducible refine (crossbarref06_Read.calls k _ _ l0 t837 t838 t839 t840 t841 t842 t843 t844 t847 t848 t851 t854 t855 _ ?side1 ?side2 A2.out).mono ?_); (case side1 => exact cE HR0.out); (case side2 => exact HC0.out); rintro e w5 ⟨v845, v849, v852, rfl, ho0, ho1, ho2, hb⟩; refine ⟨_, rfl, ?_⟩; have HO846 := Aside0.mk (Kd.R_lower ho0 (below_size (pB HB))); have HO850 := Aside0.mk (Kd.R_lower ho1 (below_size (pB HB))); have HO853 := Aside0.mk (Kd.R_lower ho2 (below_size (pB HB))); replace HB := bstE HB hb; (try clear hb); (try clear hb2); (try clear hk); (try clear hi); (try clear ho0); (try clear ho1); (try clear ho2)) | ((with_reducible refine gate_dst (N := 3) rfl ?_); refine box_event ?hg (N := 3) ?hd (cs := #[.bool false, .bool false, .bool false, .int .i64 0, .int .u16 0, .int .u32 0, .int .u32 0, .slice none 0 0, .int .u16 0, .slice none 0 0, .slice none 0 0, .int .i64 0]) (t := 45) ?hr ?_; (case hd => rfl); (case hg => rfl); (case hr => first | (go_simp; done) | (go_simp; rfl)); intro gb856 hg w6 hbox hb; replace HO846 := rbE HO846 hb; replace HO850 := rbE HO850 hb; replace HO853 := rbE HO853 hb; have n3_ := bstE HB hb; have BK856 := Aside0.mk (hbox); have GW856 := geE hg HB; have GE856 := geE hg HB; clear HB; have HB := n3_; clear n3_; clear hb hbox hg; obtain ⟨Z7_0, Z7_1, Z7_2, Z7_3, Z7_4, Z7_5, Z7_6, Z7_7, Z7_8, Z7_9, Z7_10, Z7_11, Y7_0, Y7_1, Y7_2, Y7_3, Y7_4, Y7_5, Y7_6, Y7_7, Y7_8, Y7_9, Y7_10, Y7_11⟩ := bc12 BK856.out; obtain ⟨Ao8, co8, eo8⟩ := Kd.R_slice HO846.out; subst eo8; obtain ⟨Ao9, co9, eo9⟩ := Kd.R_slice HO850.out; subst eo9; obtain ⟨Ao10, co10, eo10⟩ := Kd.R_slice HO853.out; subst eo10) | ((with_reducible refine gate_store (t := 45) (p := 3) rfl ?_); refine store_event (t := 45) (p := 3) (v := ?vo_w11) (w1 := ((((((((((((w6.setCell ⟨gb856, 0, none⟩ (.bool t837)).setCell ⟨gb856, 1, none⟩ (.bool t838)).setCell ⟨gb856, 2, none⟩ (.bool t839)).setCell ⟨gb856, 3, none⟩ (.int .i64 t840)).setCell ⟨gb856, 4, none⟩ (.int .u16 t841)).setCell ⟨gb856, 5, none⟩ (.int .u32 t842)).setCell ⟨gb856, 6, none⟩ (.int .u32 t843)).setCell ⟨gb856, 7, none⟩ (.slice Ao8 t844.length co8)).setCell ⟨gb856, 8, none⟩ (.int .u16 t847)).setCell ⟨gb856, 9, none⟩ (.slice Ao9 t848.length co9)).setCell ⟨gb856, 10, none⟩ (.slice Ao10 t851.length co10)).setCell ⟨gb856, 11, none⟩ (.int .i64 t854))) ?hg ?ho ?hn ?hr ?_; (case ho => rfl); (case hg => rfl); (case hn => rfl); (case hr => first | (go_simp; done) | (go_simp; rfl)); intro w11 hw; replace HO846 := rfE hw HO846 BK856; replace HO850 := rfE hw HO850 BK856; replace HO853 := rfE hw HO853 BK856; replace BK856 : Aside0 (w11.heap[gb856]? = some (.cells #[.bool t837, .bool t838, .bool t839, .int .i64 t840, .int .u16 t841, .int .u32 t842, .int .u32 t843, .slice Ao8 t844.length co8, .int .u16 t847, .slice Ao9 t848.length co9, .slice Ao10 t851.length co10, .int .i64 t854] 45 (0, 0))) := ⟨by rw [hw]; apply puts12; exact BK856.out⟩; replace HB := bsE hw HB GE856; clear hw))
  replace HO846 := Aside0.mk (Kd.R_drew HO846.out)
  replace HO850 := Aside0.mk (Kd.R_drew HO850.out)
  replace HO853 := Aside0.mk (Kd.R_drew HO853.out)
  replace BK856 := Aside0.mk (blk_drew BK856.out)
  replace HB := Aside0.mk (below_drew1 HB.out)
  refine start_ (n := 11) (S := fun w' => w'.cell? ⟨gb856, 0, none⟩ = some (.bool t837) ∧ w'.cell? ⟨gb856, 1, none⟩ = some (.bool t838) ∧ w'.cell? ⟨gb856, 2, none⟩ = some (.bool t839) ∧ w'.cell? ⟨gb856, 3, none⟩ = some (.int .i64 t840) ∧ w'.cell? ⟨gb856, 4, none⟩ = some (.int .u16 t841) ∧ w'.cell? ⟨gb856, 5, none⟩ = some (.int .u32 t842) ∧ w'.cell? ⟨gb856, 6, none⟩ = some (.int .u32 t843) ∧ w'.cell? ⟨gb856, 7, none⟩ = some (.slice Ao8 t844.length co8) ∧ w'.cell? ⟨gb856, 8, none⟩ = some (.int .u16 t847) ∧ w'.cell? ⟨gb856, 9, none⟩ = some (.slice Ao9 t848.length co9) ∧ w'.cell? ⟨gb856, 10, none⟩ = some (.slice Ao10 t851.length co10) ∧ w'.cell? ⟨gb856, 11, none⟩ = some (.int .i64 t854) ∧ (convert 22 9 (.slice A0 l0.length c0)).run Try.prog w' = .ok (.string (strOfNums l0)) w') (ds := []) #[false, false, false, false, false, false, false, false, false, false, false] (by kernel_rfl) rfl rfl ⟨(blk_cell BK856.out 0).trans rfl, (blk_cell BK856.out 1).trans rfl, (blk_cell BK856.out 2).trans rfl, (blk_cell BK856.out 3).trans rfl, (blk_cell BK856.out 4).trans rfl, (blk_cell BK856.out 5).trans rfl, (blk_cell BK856.out 6).trans rfl, (blk_cell BK856.out 7).trans rfl, (blk_cell BK856.out 8).trans rfl, (blk_cell BK856.out 9).trans rfl, (blk_cell BK856.out 10).trans rfl, (blk_cell BK856.out 11).trans rfl, (Kd.C_string (P := Try.prog) (A := A0) (c := c0) Try.underlying22 Try.underlying5 Try.underlying9 (Kd.C_below HR0.out HB.out))⟩ (fun hHeld => ?_); refine with_tabW crossbarref06_Canon.tab2 crossbarref06_Canon.bits2 (fun HT_ HW_ => ?_)
  generalize w11.drew = w12 at HO846 HO850 HO853 BK856 HB hHeld ⊢
  refine pure_ (i := 0) (N := some 10) (v := ?_) (a' := ?_) #[true, false, false, false, false, false, false, false, false, false, false] rfl rfl (any_of HT_.out (by kernel_rfl)) (fun _ _ _ h => h) (Or.inl ⟨by rfl, ?_⟩) ?_ ?_
  rotate_left
  ·intro w'
   go_simp
   with_reducible rfl
  rotate_left
  ·simp only [Act.put, List.setIfInBounds_toArray, List.set_cons_zero, List.set_cons_succ, i64_w, i32_w]
   rfl
  refine pure_ (i := 1) (N := some 11) (v := ?_) (a' := ?_) #[true, true, false, false, false, false, false, false, false, false, false] rfl rfl (any_of HT_.out (by kernel_rfl)) (fun _ _ _ h => h) (Or.inl ⟨by rfl, ?_⟩) ?_ ?_
  rotate_left
  ·intro w'
   go_simp
   with_reducible rfl
  rotate_left
  ·simp only [Act.put, List.setIfInBounds_toArray, List.set_cons_zero, List.set_cons_succ, i64_w, i32_w]
   rfl
  refine pure_ (i := 2) (N := some 12) (v := ?_) (a' := ?_) #[true, true, true, false, false, false, false, false, false, false, false] rfl rfl (any_of HT_.out (by kernel_rfl)) (fun _ _ _ h => h) (Or.inl ⟨by rfl, ?_⟩) ?_ ?_
  rotate_left
  ·intro w'
   go_simp
   with_reducible rfl
  rotate_left
  ·simp only [Act.put, List.setIfInBounds_toArray, List.set_cons_zero, List.set_cons_succ, i64_w, i32_w]
   rfl
  refine pure_ (i := 6) (N := some 16) (v := ?_) (a' := ?_) #[true, true, true, false, false, false, true, false, false, false, false] rfl rfl (any_of HT_.out (by kernel_rfl)) (fun _ _ _ h => h) (Or.inl ⟨by rfl, ?_⟩) ?_ ?_
  rotate_left
  ·intro w'
   go_simp
   with_reducible rfl
  rotate_left
  ·simp only [Act.put, List.setIfInBounds_toArray, List.set_cons_zero, List.set_cons_succ, i64_w, i32_w]
   rfl
  refine take_ (i := 3) (N := some 13) (v := ?_) (a' := ?_) #[true, true, true, true, false, false, true, false, false, false, false] rfl rfl (take_ofW HT_.out HW_.out (by kernel_rfl)) (fun _ _ _ h => h) (Or.inl ⟨by rfl, ?_⟩) hHeld ?_ ?_
  rotate_left
  ·rintro w' ⟨s0, s1, s2, s3, s4, s5, s6, s7, s8, s9, s10, s11, s12⟩
   go_simp
   with_reducible rfl
  rotate_left
  ·simp only [Act.put, List.setIfInBounds_toArray, List.set_cons_zero, List.set_cons_succ, i64_w, i32_w]
   rfl
  refine take_ (i := 7) (N := some 17) (v := ?_) (a' := ?_) #[true, true, true, true, false, false, true, true, false, false, false] rfl rfl (take_ofW HT_.out HW_.out (by kernel_rfl)) (fun _ _ _ h => h) (Or.inl ⟨by rfl, ?_⟩) hHeld ?_ ?_
  rotate_left
  ·rintro w' ⟨s0, s1, s2, s3, s4, s5, s6, s7, s8, s9, s10, s11, s12⟩
   go_simp
   with_reducible rfl
  rotate_left
  ·simp only [Act.put, List.setIfInBounds_toArray, List.set_cons_zero, List.set_cons_succ, i64_w, i32_w]
   rfl
  refine one_ (i := 4) (N := some 14) #[true, true, true, true, true, false, true, true, false, false, false] rfl rfl (one_of HT_.out (by kernel_rfl)) (by decide) (fun K hK => ?_)
  refine goes_ Try.func25 (by kernel_rfl) rfl #[.agg #[.bool t837, .bool t838, .bool t839, .int .i64 t840, .int .u16 t841, .int .u32 t842, .int .u32 t843, .slice Ao8 t844.length co8, .int .u16 t847, .slice Ao9 t848.length co9, .slice Ao10 t851.length co10, .int .i64 t854]] (by rfl) rfl rfl (by (try simp only [List.map_toArray, List.map_cons, List.map_nil]); first | done | rfl | (simp only [List.length_drop, List.length_take]; rfl)) ?_
  with_reducible refine (crossbarref06_Write.calls k t837 t838 t839 t840 t841 t842 t843 _ _ t844 t847 _ _ t848 _ _ t851 t854 t857 _ ?side1 ?side2 ?side3 ?side4 ?side5 ?side6 A4.out).mono ?_
  (case side1 => exact cE (Kd.R_reads' HO846.out).2.2)
  (case side2 => exact (Kd.R_reads' HO846.out).2.1)
  (case side3 => exact cE (Kd.R_reads' HO850.out).2.2)
  (case side4 => exact (Kd.R_reads' HO850.out).2.1)
  (case side5 => exact cE (Kd.R_reads' HO853.out).2.2)
  (case side6 => exact (Kd.R_reads' HO853.out).2.1)
  rintro e w13 ⟨v858, rfl, ho0, hb⟩
  refine ⟨_, rfl, ?_⟩
  replace HO846 := rbE HO846 hb
  have n1_ := Aside0.mk (Kd.R_elder' (pR HO850) (Kd.R_base ho0) hb)
  have n2_ := Aside0.mk (Kd.R_elder' (pR HO853) (Kd.R_base ho0) hb)
  have HO859 := Aside0.mk (Kd.R_lower (Kd.R_new' (Kd.R_new' ho0 (Kd.R_lt (pR HO850))) (Kd.R_lt (pR HO853))) (below_size (pB HB)))
  replace BK856 := bbE BK856 hb
  replace HB := bstE HB hb
  clear HO850
  clear HO853
  have HO850 := n1_
  have HO853 := n2_
  clear n1_ n2_
  (try clear hb)
  (try clear hb2)
  (try clear hk)
  (try clear hi)
  (try clear ho0)
  refine hK.out _ _ ⟨(blk_cell BK856.out 0).trans rfl, (blk_cell BK856.out 1).trans rfl, (blk_cell BK856.out 2).trans rfl, (blk_cell BK856.out 3).trans rfl, (blk_cell BK856.out 4).trans rfl, (blk_cell BK856.out 5).trans rfl, (blk_cell BK856.out 6).trans rfl, (blk_cell BK856.out 7).trans rfl, (blk_cell BK856.out 8).trans rfl, (blk_cell BK856.out 9).trans rfl, (blk_cell BK856.out 10).trans rfl, (blk_cell BK856.out 11).trans rfl, (Kd.C_string (P := Try.prog) (A := A0) (c := c0) Try.underlying22 Try.underlying5 Try.underlying9 (Kd.C_below HR0.out HB.out))⟩ (fun hHeld => ?_)
  clear hK K
  refine norm_ (a' := ?_) ?_ ?_
  rotate_left
  ·show Act.put _ (some 14) _ = _
   simp only [Act.put, List.setIfInBounds_toArray, List.set_cons_zero, List.set_cons_succ, i64_w, i32_w]
   rfl
  refine one_ (i := 5) (N := some 15) #[true, true, true, true, true, true, true, true, false, false, false] rfl rfl (one_of HT_.out (by kernel_rfl)) (by decide) (fun K hK => ?_)
  have hcv14 := own_string (P := Try.prog) Try.underlying22 Try.underlying5 Try.underlying9 (Kd.own_of_R HO859.out)
  refine value_ (w1 := ?_) (v := ?_) (by rfl) rfl ?_ ?_
  rotate_left 2
  ·go_simp
   constructor
   ·rfl
   rfl
  clear hcv14
  refine hK.out _ _ ⟨(blk_cell BK856.out 0).trans rfl, (blk_cell BK856.out 1).trans rfl, (blk_cell BK856.out 2).trans rfl, (blk_cell BK856.out 3).trans rfl, (blk_cell BK856.out 4).trans rfl, (blk_cell BK856.out 5).trans rfl, (blk_cell BK856.out 6).trans rfl, (blk_cell BK856.out 7).trans rfl, (blk_cell BK856.out 8).trans rfl, (blk_cell BK856.out 9).trans rfl, (blk_cell BK856.out 10).trans rfl, (blk_cell BK856.out 11).trans rfl, (Kd.C_string (P := Try.prog) (A := A0) (c := c0) Try.underlying22 Try.underlying5 Try.underlying9 (Kd.C_below HR0.out HB.out))⟩ (fun hHeld => ?_)
  clear hK K
  refine norm_ (a' := ?_) ?_ ?_
  rotate_left
  ·show Act.put _ (some 15) _ = _
   simp only [Act.put, List.setIfInBounds_toArray, List.set_cons_zero, List.set_cons_succ, i64_w, i32_w]
   rfl
  refine pure_ (i := 8) (N := some 18) (v := ?_) (a' := ?_) #[true, true, true, true, true, true, true, true, true, false, false] rfl rfl (any_of HT_.out (by kernel_rfl)) (fun _ _ _ h => h) (Or.inl ⟨by rfl, ?_⟩) ?_ ?_
  rotate_left
  ·intro w'
   go_simp
   with_reducible rfl
  rotate_left
  ·simp only [Act.put, List.setIfInBounds_toArray, List.set_cons_zero, List.set_cons_succ, i64_w, i32_w]
   rfl
  refine pure_ (i := 9) (N := some 19) (v := ?_) (a' := ?_) #[true, true, true, true, true, true, true, true, true, true, false] rfl rfl (any_of HT_.out (by kernel_rfl)) (fun _ _ _ h => h) (Or.inl ⟨by rfl, ?_⟩) ?_ ?_
  rotate_left
  ·intro w'
   go_simp
   with_reducible rfl
  rotate_left
  ·simp only [Act.put, List.setIfInBounds_toArray, List.set_cons_zero, List.set_cons_succ, i64_w, i32_w]
   rfl
  refine pure_ (i := 10) (N := some 2) (v := ?_) (a' := ?_) #[true, true, true, true, true, true, true, true, true, true, true] rfl rfl (any_of HT_.out (by kernel_rfl)) (fun _ _ _ h => h) (Or.inl ⟨by rfl, ?_⟩) ?_ ?_
  rotate_left
  ·intro w'
   go_simp
   with_reducible rfl
  rotate_left
  ·simp only [Act.put, List.setIfInBounds_toArray, List.set_cons_zero, List.set_cons_succ, i64_w, i32_w]
   rfl
  refine done_ (done_of HT_.out (by kernel_rfl)) ?_
  try go_wp2
  go_ret
  exact ⟨by first | rfl | (simp [errW_none, errW_some] <;> rfl) | (simp [*, errW_none, errW_some] <;> rfl), by repeat (first | (with_reducible first | exact HB.out | apply below_alloc | apply pw_below_drewN | apply below_drew1 | refine below_set ?_ GE856.out) | exact HB.out)⟩
 rw [if_neg c3] at H
 have c3b0 : (t855 == 0) = false := beq_eq_false_iff_ne.mpr c3
 have c3b1 : (t855 != 0) = true := bne_iff_ne.mpr c3
 obtain rfl := Option.some.inj H
 go_enter Try.func29, Try.ntmps29
 try go_wp2_with (first | ((with_reducible refine gate_callee (f := 26) rfl ?_); refine goesL_ (some 7) rfl rfl Try.func26 (by kernel_rfl) rfl #[.slice A0 l0.length c0] rfl (by (try simp only [List.map_toArray, List.map_cons, List.map_nil]); first | done | rfl | (simp only [List.length_drop, List.length_take]; rfl)) ?_; (with_reducible refine (crossbarref06_Read.calls k _ _ l0 t837 t838 t839 t840 t841 t842 t843 t844 t847 t848 t851 t854 t855 _ ?side1 ?side2 A2.out).mono ?_); (case side1 => exact cE HR0.out); (case side2 => exact HC0.out); rintro e w16 ⟨v845, v849, v852, rfl, ho0, ho1, ho2, hb⟩; refine ⟨_, rfl, ?_⟩; have HO846 := Aside0.mk (Kd.R_lower ho0 (below_size (pB HB))); have HO850 := Aside0.mk (Kd.R_lower ho1 (below_size (pB HB))); have HO853 := Aside0.mk (Kd.R_lower ho2 (below_size (pB HB))); replace HB := bstE HB hb; (try clear hb); (try clear hb2); (try clear hk); (try clear hi); (try clear ho0); (try clear ho1); (try clear ho2)) | ((with_reducible refine gate_dst (N := 3) rfl ?_); refine box_event ?hg (N := 3) ?hd (cs := #[.bool false, .bool false, .bool false, .int .i64 0, .int .u16 0, .int .u32 0, .int .u32 0, .slice none 0 0, .int .u16 0, .slice none 0 0, .slice none 0 0, .int .i64 0]) (t := 45) ?hr ?_; (case hd => rfl); (case hg => rfl); (case hr => first | (go_simp; done) | (go_simp; rfl)); intro gb856 hg w17 hbox hb; replace HO846 := rbE HO846 hb; replace HO850 := rbE HO850 hb; replace HO853 := rbE HO853 hb; have n3_ := bstE HB hb; have BK856 := Aside0.mk (hbox); have GW856 := geE hg HB; have GE856 := geE hg HB; clear HB; have HB := n3_; clear n3_; clear hb hbox hg; obtain ⟨Z18_0, Z18_1, Z18_2, Z18_3, Z18_4, Z18_5, Z18_6, Z18_7, Z18_8, Z18_9, Z18_10, Z18_11, Y18_0, Y18_1, Y18_2, Y18_3, Y18_4, Y18_5, Y18_6, Y18_7, Y18_8, Y18_9, Y18_10, Y18_11⟩ := bc12 BK856.out; obtain ⟨Ao19, co19, eo19⟩ := Kd.R_slice HO846.out; subst eo19; obtain ⟨Ao20, co20, eo20⟩ := Kd.R_slice HO850.out; subst eo20; obtain ⟨Ao21, co21, eo21⟩ := Kd.R_slice HO853.out; subst eo21) | ((with_reducible refine gate_store (t := 45) (p := 3) rfl ?_); refine store_event (t := 45) (p := 3) (v := ?vo_w22) (w1 := ((((((((((((w17.setCell ⟨gb856, 0, none⟩ (.bool t837)).setCell ⟨gb856, 1, none⟩ (.bool t838)).setCell ⟨gb856, 2, none⟩ (.bool t839)).setCell ⟨gb856, 3, none⟩ (.int .i64 t840)).setCell ⟨gb856, 4, none⟩ (.int .u16 t841)).setCell ⟨gb856, 5, none⟩ (.int .u32 t842)).setCell ⟨gb856, 6, none⟩ (.int .u32 t843)).setCell ⟨gb856, 7, none⟩ (.slice Ao19 t844.length co19)).setCell ⟨gb856, 8, none⟩ (.int .u16 t847)).setCell ⟨gb856, 9, none⟩ (.slice Ao20 t848.length co20)).setCell ⟨gb856, 10, none⟩ (.slice Ao21 t851.length co21)).setCell ⟨gb856, 11, none⟩ (.int .i64 t854))) ?hg ?ho ?hn ?hr ?_; (case ho => rfl); (case hg => rfl); (case hn => rfl); (case hr => first | (go_simp; done) | (go_simp; rfl)); intro w22 hw; replace HO846 := rfE hw HO846 BK856; replace HO850 := rfE hw HO850 BK856; replace HO853 := rfE hw HO853 BK856; replace BK856 : Aside0 (w22.heap[gb856]? = some (.cells #[.bool t837, .bool t838, .bool t839, .int .i64 t840, .int .u16 t841, .int .u32 t842, .int .u32 t843, .slice Ao19 t844.length co19, .int .u16 t847, .slice Ao20 t848.length co20, .slice Ao21 t851.length co21, .int .i64 t854] 45 (0, 0))) := ⟨by rw [hw]; apply puts12; exact BK856.out⟩; replace HB := bsE hw HB GE856; clear hw))
 replace HO846 := Aside0.mk (Kd.R_drew HO846.out)
 replace HO850 := Aside0.mk (Kd.R_drew HO850.out)
 replace HO853 := Aside0.mk (Kd.R_drew HO853.out)
 replace BK856 := Aside0.mk (blk_drew BK856.out)
 replace HB := Aside0.mk (below_drew1 HB.out)
 refine start_ (n := 11) (S := fun w' => True) (ds := []) #[false, false, false, false, false, false, false, false, false, false, false] (by kernel_rfl) rfl rfl trivial (fun hHeld => ?_); refine with_tabW crossbarref06_Canon.tab2 crossbarref06_Canon.bits2 (fun HT_ HW_ => ?_)
 generalize w22.drew = w23 at HO846 HO850 HO853 BK856 HB hHeld ⊢
 refine pure_ (i := 0) (N := some 10) (v := ?_) (a' := ?_) #[true, false, false, false, false, false, false, false, false, false, false] rfl rfl (any_of HT_.out (by kernel_rfl)) (fun _ _ _ h => h) (Or.inl ⟨by rfl, ?_⟩) ?_ ?_
 rotate_left
 ·intro w'
  go_simp
  with_reducible rfl
 rotate_left
 ·simp only [Act.put, List.setIfInBounds_toArray, List.set_cons_zero, List.set_cons_succ, i64_w, i32_w]
  rfl
 refine pure_ (i := 1) (N := some 11) (v := ?_) (a' := ?_) #[true, true, false, false, false, false, false, false, false, false, false] rfl rfl (any_of HT_.out (by kernel_rfl)) (fun _ _ _ h => h) (Or.inl ⟨by rfl, ?_⟩) ?_ ?_
 rotate_left
 ·intro w'
  go_simp
  with_reducible rfl
 rotate_left
 ·simp only [Act.put, List.setIfInBounds_toArray, List.set_cons_zero, List.set_cons_succ, i64_w, i32_w]
  rfl
 refine pure_ (i := 2) (N := some 12) (v := ?_) (a' := ?_) #[true, true, true, false, false, false, false, false, false, false, false] rfl rfl (any_of HT_.out (by kernel_rfl)) (fun _ _ _ h => h) (Or.inl ⟨by rfl, ?_⟩) ?_ ?_
 rotate_left
 ·intro w'
  go_simp
  with_reducible rfl
 rotate_left
 ·simp only [Act.put, List.setIfInBounds_toArray, List.set_cons_zero, List.set_cons_succ, i64_w, i32_w]
  rfl
 refine pure_ (i := 3) (N := some 13) (v := undef) (a' := ?_) #[true, true, true, true, false, false, false, false, false, false, false] rfl rfl (any_of HT_.out (by kernel_rfl)) (fun _ _ _ h => h) (Or.inr ⟨by rfl, rfl⟩) ?_ ?_
 rotate_left
 ·simp only [Act.put, List.setIfInBounds_toArray, List.set_cons_zero, List.set_cons_succ, i64_w, i32_w]
  rfl
 refine pure_ (i := 4) (N := some 14) (v := undef) (a' := ?_) #[true, true, true, true, true, false, false, false, false, false, false] rfl rfl (any_of HT_.out (by kernel_rfl)) (fun _ _ _ h => h) (Or.inr ⟨by rfl, rfl⟩) ?_ ?_
 rotate_left
 ·simp only [Act.put, List.setIfInBounds_toArray, List.set_cons_zero, List.set_cons_succ, i64_w, i32_w]
  rfl
 refine pure_ (i := 5) (N := some 15) (v := undef) (a' := ?_) #[true, true, true, true, true, true, false, false, false, false, false] rfl rfl (any_of HT_.out (by kernel_rfl)) (fun _ _ _ h => h) (Or.inr ⟨by rfl, rfl⟩) ?_ ?_
 rotate_left
 ·simp only [Act.put, List.setIfInBounds_toArray, List.set_cons_zero, List.set_cons_succ, i64_w, i32_w]
  rfl
 refine pure_ (i := 6) (N := some 16) (v := undef) (a' := ?_) #[true, true, true, true, true, true, true, false, false, false, false] rfl rfl (any_of HT_.out (by kernel_rfl)) (fun _ _ _ h => h) (Or.inr ⟨by rfl, rfl⟩) ?_ ?_
 rotate_left
 ·simp only [Act.put, List.setIfInBounds_toArray, List.set_cons_zero, List.set_cons_succ, i64_w, i32_w]
  rfl
 refine pure_ (i := 7) (N := some 17) (v := undef) (a' := ?_) #[true, true, true, true, true, true, true, true, false, false, false] rfl rfl (any_of HT_.out (by kernel_rfl)) (fun _ _ _ h => h) (Or.inr ⟨by rfl, rfl⟩) ?_ ?_
 rotate_left
 ·simp only [Act.put, List.setIfInBounds_toArray, List.set_cons_zero, List.set_cons_succ, i64_w, i32_w]
  rfl
 refine pure_ (i := 8) (N := some 18) (v := undef) (a' := ?_) #[true, true, true, true, true, true, true, true, true, false, false] rfl rfl (any_of HT_.out (by kernel_rfl)) (fun _ _ _ h => h) (Or.inr ⟨by rfl, rfl⟩) ?_ ?_
 rotate_left
 ·simp only [Act.put, List.setIfInBounds_toArray, List.set_cons_zero, List.set_cons_succ, i64_w, i32_w]
  rfl
 refine pure_ (i := 9) (N := some 19) (v := ?_) (a' := ?_) #[true, true, true, true, true, true, true, true, true, true, false] rfl rfl (any_of HT_.out (by kernel_rfl)) (fun _ _ _ h => h) (Or.inl ⟨by rfl, ?_⟩) ?_ ?_
 rotate_left
 ·intro w'
  go_simp
  with_reducible rfl
 rotate_left
 ·simp only [Act.put, List.setIfInBounds_toArray, List.set_cons_zero, List.set_cons_succ, i64_w, i32_w]
  rfl
 refine pure_ (i := 10) (N := some 2) (v := ?_) (a' := ?_) #[true, true, true, true, true, true, true, true, true, true, true] rfl rfl (any_of HT_.out (by kernel_rfl)) (fun _ _ _ h => h) (Or.inl ⟨by rfl, ?_⟩) ?_ ?_
 rotate_left
 ·intro w'
  go_simp
  with_reducible rfl
 rotate_left
 ·simp only [Act.put, List.setIfInBounds_toArray, List.set_cons_zero, List.set_cons_succ, i64_w, i32_w]
  rfl
 refine done_ (done_of HT_.out (by kernel_rfl)) ?_
 try go_wp2
 go_ret
 exact ⟨by first | rfl | (simp [errW_none, errW_some] <;> rfl) | (simp [*, errW_none, errW_some] <;> rfl), by repeat (first | (with_reducible first | exact HB.out | apply below_alloc | apply pw_below_drewN | apply below_drew1 | refine below_set ?_ GE856.out) | exact HB.out)⟩
mutual
def crossbarlaw06_PacketRight.j0 : Nat → Int → List Int → Bool → Bool → Bool → Bool → Int → Int → Int → Int → List Int → Int → List Int → List Int → Int → Option (Bool)
 | 0, _, _, _, _, _, _, _, _, _, _, _, _, _, _, _ => none
 | k + 1, x1, x2, x23, x861000, x861001, x861002, x861003, x861004, x861005, x861006, x861007, x861008, x861009, x861010, x861011 => if x23 = true then (some true) else ((crossbarref06_Right.f k x861000 x861001 x861002 x861003 x861004 x861005 x861006 x861007 x861008 x861009 x861010 x861011).bind fun t863 => ((packet_Write.f k x861000 x861001 x861002 x861003 x861004 x861005 x861006 x861007 x861008 x861009 x861010 x861011 x1).bind fun bt864 => (if t863 = true then ((crossbarref06_Size.f x861000 x861001 x861002 x861003 x861004 x861005 x861006 x861007 x861008 x861009 x861010 x861011).bind fun t868 => (if t868 > x1 then (if bt864.2 = 7 then (if (bt864.1.length : Int) = 0 then ((packet_Size.f k x861000 x861001 x861002 x861003 x861004 x861005 x861006 x861007 x861008 x861009 x861010 x861011).bind fun t869 => ((crossbarref06_Size.f x861000 x861001 x861002 x861003 x861004 x861005 x861006 x861007 x861008 x861009 x861010 x861011).bind fun t870 => (if t869 = t870 then (crossbarlaw06_PacketRight.j1 k x2 t863 x861000 x861001 x861002 x861003 x861004 x861005 x861006 x861007 x861008 x861009 x861010 x861011) else (none)))) else (none)) else (none)) else (if bt864.2 = 0 then ((crossbarref06_Write.f k x861000 x861001 x861002 x861003 x861004 x861005 x861006 x861007 x861008 x861009 x861010 x861011).bind fun t871 => (if (strOfNums bt864.1).toList = (strOfNums t871).toList then ((packet_Size.f k x861000 x861001 x861002 x861003 x861004 x861005 x861006 x861007 x861008 x861009 x861010 x861011).bind fun t874 => (if t874 = (bt864.1.length : Int) then (crossbarlaw06_PacketRight.j1 k x2 t863 x861000 x861001 x861002 x861003 x861004 x861005 x861006 x861007 x861008 x861009 x861010 x861011) else (none))) else (none))) else (none)))) else (if bt864.2 = 1 then (if (bt864.1.length : Int) = 0 then ((packet_Size.f k x861000 x861001 x861002 x861003 x861004 x861005 x861006 x861007 x861008 x861009 x861010 x861011).bind fun t875 => (if t875 = 0 then (crossbarlaw06_PacketRight.j1 k x2 t863 x861000 x861001 x861002 x861003 x861004 x861005 x861006 x861007 x861008 x861009 x861010 x861011) else (none))) else (none)) else (none)))))
def crossbarlaw06_PacketRight.j1 : Nat → List Int → Bool → Bool → Bool → Bool → Int → Int → Int → Int → List Int → Int → List Int → List Int → Int → Option (Bool)
 | 0, _, _, _, _, _, _, _, _, _, _, _, _, _, _ => none
 | k + 1, x2, x7, x861000, x861001, x861002, x861003, x861004, x861005, x861006, x861007, x861008, x861009, x861010, x861011 => (packet_Read.f k x2).bind fun bt876 => ((crossbarref06_Read.f k x2).bind fun bt896 => ((packet_Right.f k x861000 x861001 x861002 x861003 x861004 x861005 x861006 x861007 x861008 x861009 x861010 x861011).bind fun t916 => (if (t916 == x7) = true then (if bt876.2.2.2.2.2.2.2.2.2.2.2.2 = bt896.2.2.2.2.2.2.2.2.2.2.2.2 then ((crossbarref06_Same.f k bt876.1 bt876.2.1 bt876.2.2.1 bt876.2.2.2.1 bt876.2.2.2.2.1 bt876.2.2.2.2.2.1 bt876.2.2.2.2.2.2.1 bt876.2.2.2.2.2.2.2.1 bt876.2.2.2.2.2.2.2.2.1 bt876.2.2.2.2.2.2.2.2.2.1 bt876.2.2.2.2.2.2.2.2.2.2.1 bt876.2.2.2.2.2.2.2.2.2.2.2.1 bt896.1 bt896.2.1 bt896.2.2.1 bt896.2.2.2.1 bt896.2.2.2.2.1 bt896.2.2.2.2.2.1 bt896.2.2.2.2.2.2.1 bt896.2.2.2.2.2.2.2.1 bt896.2.2.2.2.2.2.2.2.1 bt896.2.2.2.2.2.2.2.2.2.1 bt896.2.2.2.2.2.2.2.2.2.2.1 bt896.2.2.2.2.2.2.2.2.2.2.2.1).bind fun t917 => (if t917 = true then ((packet_Canon.f k x2).bind fun t918 => ((crossbarref06_Canon.f k x2).bind fun t919 => (some (t918 == t919)))) else (none))) else (none)) else (none))))
end
def crossbarlaw06_PacketRight.f (k : Nat) (a0_0 : Bool) (a0_1 : Bool) (a0_2 : Bool) (a0_3 : Int) (a0_4 : Int) (a0_5 : Int) (a0_6 : Int) (l0_7 : List Int) (a0_8 : Int) (l0_9 : List Int) (l0_10 : List Int) (a0_11 : Int) (a1 : Int) (l2 : List Int) : Option (Bool) := (crossbarlaw06_awake.f k).bind fun t861 => (if t861 = true then ((crossbarref06_Short.f a0_0 a0_1 a0_2 a0_3 a0_4 a0_5 a0_6 l0_7 a0_8 l0_9 l0_10 a0_11).bind fun t862 => (if t862 = true then (crossbarlaw06_PacketRight.j0 k a1 l2 (decide ((l2.length : Int) > 70000)) a0_0 a0_1 a0_2 a0_3 a0_4 a0_5 a0_6 l0_7 a0_8 l0_9 l0_10 a0_11) else (crossbarlaw06_PacketRight.j0 k a1 l2 true a0_0 a0_1 a0_2 a0_3 a0_4 a0_5 a0_6 l0_7 a0_8 l0_9 l0_10 a0_11))) else (none))
def crossbarlaw06_PacketRight.T7 : Bool × List (List Nat × List Nat) := (true, [([], []), ([0], [0]), ([1], [1]), ([2], [2]), ([3, 2], [2, 3]), ([2], [2]), ([5, 2, 2], [2, 5]), ([6, 2], [2, 6]), ([4, 7, 2], [2, 4, 7]), ([2, 8], [2, 8]), ([9, 6], [9]), ([10], [10]), ([11, 10, 10], [10, 11]), ([10], [10]), ([13, 10], [10, 13]), ([12, 14, 10], [10, 12, 14]), ([10, 15], [10, 15])])
def crossbarlaw06_PacketRight.B7 : List Nat := [0, 1, 3, 7, 15, 7, 39, 103, 255, 511, 1023, 2047, 4095, 2047, 10239, 32767, 65535]
theorem crossbarlaw06_PacketRight.tab7 : rtab .any (opsOf Try.f6 7) = crossbarlaw06_PacketRight.T7 := by kernel_rfl
theorem crossbarlaw06_PacketRight.bits7 : waitsOk crossbarlaw06_PacketRight.T7.2 crossbarlaw06_PacketRight.B7 = true := by kernel_rfl
def crossbarlaw06_PacketRight.T13 : Bool × List (List Nat × List Nat) := (true, [([], []), ([0], [0]), ([1], [1]), ([2], [2]), ([3, 2], [2, 3]), ([4, 2], [2, 4]), ([2, 5], [2, 5]), ([6, 2], [6]), ([7], [7]), ([8, 7, 7], [7, 8]), ([7], [7]), ([10, 9, 7], [7, 10]), ([9, 11, 7], [7, 9, 11]), ([7, 12], [7, 12])])
def crossbarlaw06_PacketRight.B13 : List Nat := [0, 1, 3, 7, 15, 31, 63, 127, 255, 511, 255, 2047, 4095, 8191]
theorem crossbarlaw06_PacketRight.tab13 : rtab .any (opsOf Try.f6 13) = crossbarlaw06_PacketRight.T13 := by kernel_rfl
theorem crossbarlaw06_PacketRight.bits13 : waitsOk crossbarlaw06_PacketRight.T13.2 crossbarlaw06_PacketRight.B13 = true := by kernel_rfl
set_option maxHeartbeats 8000000 in
set_option maxRecDepth 100000 in
theorem crossbarlaw06_PacketRight.calls (k : Nat) (a0_0 : Bool) (a0_1 : Bool) (a0_2 : Bool) (a0_3 : Int) (a0_4 : Int) (a0_5 : Int) (a0_6 : Int) (A0_7 : Option Addr) (c0_7 : Nat) (l0_7 : List Int) (a0_8 : Int) (A0_9 : Option Addr) (c0_9 : Nat) (l0_9 : List Int) (A0_10 : Option Addr) (c0_10 : Nat) (l0_10 : List Int) (a0_11 : Int) (a1 : Int) (A2 : Option Addr) (c2 : Nat) (l2 : List Int) (r : Bool) (w : World) (hr0_7 : Kd.C (Kd.int .u32) w A0_7 l0_7.length l0_7) (hc0_7 : l0_7.length ≤ c0_7) (hr0_9 : Kd.C (Kd.int .u8) w A0_9 l0_9.length l0_9) (hc0_9 : l0_9.length ≤ c0_9) (hr0_10 : Kd.C (Kd.int .u8) w A0_10 l0_10.length l0_10) (hc0_10 : l0_10.length ≤ c0_10) (hr2 : Kd.C (Kd.int .u8) w A2 l2.length l2) (hc2 : l2.length ≤ c2) (h : crossbarlaw06_PacketRight.f k a0_0 a0_1 a0_2 a0_3 a0_4 a0_5 a0_6 l0_7 a0_8 l0_9 l0_10 a0_11 a1 l2 = some r) :
  Calls Try.prog 6 #[.agg #[.bool a0_0, .bool a0_1, .bool a0_2, .int .i64 a0_3, .int .u16 a0_4, .int .u32 a0_5, .int .u32 a0_6, .slice A0_7 l0_7.length c0_7, .int .u16 a0_8, .slice A0_9 l0_9.length c0_9, .slice A0_10 l0_10.length c0_10, .int .i64 a0_11], .int .i64 a1, .slice A2 l2.length c2] w fun e w' => e = .returned (.bool r) ∧ Below w.heap.size w w' := by
 have hu45 := Try.underlying45
 have HR0_7 := Aside0.mk hr0_7
 have HC0_7 := Aside0.mk hc0_7
 clear hr0_7 hc0_7
 have HR0_9 := Aside0.mk hr0_9
 have HC0_9 := Aside0.mk hc0_9
 clear hr0_9 hc0_9
 have HR0_10 := Aside0.mk hr0_10
 have HC0_10 := Aside0.mk hc0_10
 clear hr0_10 hc0_10
 have HR2 := Aside0.mk hr2
 have HC2 := Aside0.mk hc2
 clear hr2 hc2
 have HB := Aside0.mk (Below.refl w.heap.size w)
 have H : ((crossbarlaw06_awake.f k).bind fun t861 => (if t861 = true then ((crossbarref06_Short.f a0_0 a0_1 a0_2 a0_3 a0_4 a0_5 a0_6 l0_7 a0_8 l0_9 l0_10 a0_11).bind fun t862 => (if t862 = true then (crossbarlaw06_PacketRight.j0 k a1 l2 (decide ((l2.length : Int) > 70000)) a0_0 a0_1 a0_2 a0_3 a0_4 a0_5 a0_6 l0_7 a0_8 l0_9 l0_10 a0_11) else (crossbarlaw06_PacketRight.j0 k a1 l2 true a0_0 a0_1 a0_2 a0_3 a0_4 a0_5 a0_6 l0_7 a0_8 l0_9 l0_10 a0_11))) else (none))) = some r := h
 clear h
 replace H := Option.bind_eq_some_iff.mp H
 obtain ⟨t861, A40, H⟩ := H
 replace H : (if t861 = true then ((crossbarref06_Short.f a0_0 a0_1 a0_2 a0_3 a0_4 a0_5 a0_6 l0_7 a0_8 l0_9 l0_10 a0_11).bind fun t862 => (if t862 = true then (crossbarlaw06_PacketRight.j0 k a1 l2 (decide ((l2.length : Int) > 70000)) a0_0 a0_1 a0_2 a0_3 a0_4 a0_5 a0_6 l0_7 a0_8 l0_9 l0_10 a0_11) else (crossbarlaw06_PacketRight.j0 k a1 l2 true a0_0 a0_1 a0_2 a0_3 a0_4 a0_5 a0_6 l0_7 a0_8 l0_9 l0_10 a0_11))) else (none)) = some r := H
 have A4 := Aside0.mk A40
 clear A40
 by_cases c5 : t861 = true
 ·subst c5
  have H1 : ((crossbarref06_Short.f a0_0 a0_1 a0_2 a0_3 a0_4 a0_5 a0_6 l0_7 a0_8 l0_9 l0_10 a0_11).bind fun t862 => (if t862 = true then (crossbarlaw06_PacketRight.j0 k a1 l2 (decide ((l2.length : Int) > 70000)) a0_0 a0_1 a0_2 a0_3 a0_4 a0_5 a0_6 l0_7 a0_8 l0_9 l0_10 a0_11) else (crossbarlaw06_PacketRight.j0 k a1 l2 true a0_0 a0_1 a0_2 a0_3 a0_4 a0_5 a0_6 l0_7 a0_8 l0_9 l0_10 a0_11))) = some r := by rw [if_pos rfl] at H; exact H
  clear H
  have H := H1
  clear H1
  have HC6 := Aside0.mk H
  clear H
  go_enter Try.func6, Try.ntmps6
  go_upto_region 3 with (first | ((with_reducible refine gate_dst (N := 3) rfl ?_); (try (refine gate_guard (by rfl) ?_; dsimp only)); refine box_event ?hg (N := 3) ?hd (cs := #[.bool a0_0, .bool a0_1, .bool a0_2, .int .i64 a0_3, .int .u16 a0_4, .int .u32 a0_5, .int .u32 a0_6, .slice A0_7 l0_7.length c0_7, .int .u16 a0_8, .slice A0_9 l0_9.length c0_9, .slice A0_10 l0_10.length c0_10, .int .i64 a0_11]) (t := 45) ?hr ?_; (case hd => rfl); (case hg => rfl); (case hr => first | (go_simp; done) | (go_simp; rfl)); intro gb860 hg w7 hbox hb; have n0_ := bstE HB hb; have BK860 := Aside0.mk (hbox); have GW860 := geE hg HB; have GE860 := geE hg HB; clear HB; have HB := n0_; clear n0_; clear hb hbox hg) | ((with_reducible refine gate_callee (f := 19) rfl ?_); refine goesL_ (some 14) rfl rfl Try.func19 (by kernel_rfl) rfl #[] rfl (by (try simp only [List.map_toArray, List.map_cons, List.map_nil]); first | done | rfl | (simp only [List.length_drop, List.length_take]; rfl)) ?_; (with_reducible refine (crossbarlaw06_awake.calls k  true _ A4.out).mono ?_); rintro e w8 ⟨rfl, hb⟩; refine ⟨_, rfl, ?_⟩; replace BK860 := bbE BK860 hb; replace HB := bstE HB hb; (try clear hb); (try clear hb2); (try clear hk); (try clear hi)))
  (try simp only [Act.put, List.setIfInBounds_toArray, List.set_cons_zero, List.set_cons_succ])
  go_cut [23] (fun v23 wc => ∃ (kq : Nat) (x23_5 : Bool), v23 = .bool x23_5 ∧ Aside0 (crossbarlaw06_PacketRight.j0 kq a1 l2 x23_5 a0_0 a0_1 a0_2 a0_3 a0_4 a0_5 a0_6 l0_7 a0_8 l0_9 l0_10 a0_11 = some r) ∧ Aside0 (kq ≤ k) ∧ Aside0 (wc.heap[gb860]? = some (.cells #[.bool a0_0, .bool a0_1, .bool a0_2, .int .i64 a0_3, .int .u16 a0_4, .int .u32 a0_5, .int .u32 a0_6, (.slice A0_7 l0_7.length c0_7), .int .u16 a0_8, (.slice A0_9 l0_9.length c0_9), (.slice A0_10 l0_10.length c0_10), .int .i64 a0_11] 45 (0, 0))) ∧ Aside0 (Below w.heap.size w wc))
  case first =>
   have H := HC6.out
   clear HC6
   replace H := Option.bind_eq_some_iff.mp H
   obtain ⟨t862, A90, H⟩ := H
   replace H : (if t862 = true then (crossbarlaw06_PacketRight.j0 k a1 l2 (decide ((l2.length : Int) > 70000)) a0_0 a0_1 a0_2 a0_3 a0_4 a0_5 a0_6 l0_7 a0_8 l0_9 l0_10 a0_11) else (crossbarlaw06_PacketRight.j0 k a1 l2 true a0_0 a0_1 a0_2 a0_3 a0_4 a0_5 a0_6 l0_7 a0_8 l0_9 l0_10 a0_11)) = some r := H
   have A9 := Aside0.mk A90
   clear A90
   by_cases c10 : t862 = true
   ·subst c10
    have H1 : (crossbarlaw06_PacketRight.j0 k a1 l2 (decide ((l2.length : Int) > 70000)) a0_0 a0_1 a0_2 a0_3 a0_4 a0_5 a0_6 l0_7 a0_8 l0_9 l0_10 a0_11) = some r := by rw [if_pos rfl] at H; exact H
    clear H
    have H := H1
    clear H1
    have H' := Aside0.mk H
    clear H
    obtain ⟨Z11_0, Z11_1, Z11_2, Z11_3, Z11_4, Z11_5, Z11_6, Z11_7, Z11_8, Z11_9, Z11_10, Z11_11, Y11_0, Y11_1, Y11_2, Y11_3, Y11_4, Y11_5, Y11_6, Y11_7, Y11_8, Y11_9, Y11_10, Y11_11⟩ := bc12 BK860.out
    go_wp2_with (first | ((with_reducible refine gate_callee (f := 20) rfl ?_); refine goesL_ (some 17) rfl rfl Try.func20 (by kernel_rfl) rfl #[.agg #[.bool a0_0, .bool a0_1, .bool a0_2, .int .i64 a0_3, .int .u16 a0_4, .int .u32 a0_5, .int .u32 a0_6, .slice A0_7 l0_7.length c0_7, .int .u16 a0_8, .slice A0_9 l0_9.length c0_9, .slice A0_10 l0_10.length c0_10, .int .i64 a0_11]] rfl (by (try simp only [List.map_toArray, List.map_cons, List.map_nil]); first | done | rfl | (simp only [List.length_drop, List.length_take]; rfl)) ?_; (with_reducible refine (crossbarref06_Short.calls a0_0 a0_1 a0_2 a0_3 a0_4 a0_5 a0_6 _ _ l0_7 a0_8 _ _ l0_9 _ _ l0_10 a0_11 true _ ?side1 ?side2 ?side3 ?side4 ?side5 ?side6 A9.out).mono ?_); (case side1 => exact cbE HR0_7 HB); (case side2 => exact HC0_7.out); (case side3 => exact cbE HR0_9 HB); (case side4 => exact HC0_9.out); (case side5 => exact cbE HR0_10 HB); (case side6 => exact HC0_10.out); rintro e w12 ⟨rfl, hb⟩; refine ⟨_, rfl, ?_⟩; replace BK860 := bbE BK860 hb; replace HB := bstE HB hb; (try clear hb); (try clear hb2); (try clear hk); (try clear hi)))
    go_meet
    case rel => exact ⟨_, (decide ((l2.length : Int) > 70000)), (by first | rfl | (simp; done) | (simp [*]; done)), H', ⟨by first | omega | exact Nat.le_refl _⟩, ⟨by (with_reducible repeat (first | refine blk_drewN ?_ _ | refine blk_drew ?_ | refine blk_alloc ?_ _)); exact BK860.out⟩, ⟨by repeat (first | (with_reducible first | exact HB.out | apply below_alloc | apply pw_below_drewN | apply below_drew1 | refine below_set ?_ GE860.out) | exact HB.out)⟩⟩
   replace c10 := Bool.eq_false_iff.mpr c10
   subst c10
   have H1 : (crossbarlaw06_PacketRight.j0 k a1 l2 true a0_0 a0_1 a0_2 a0_3 a0_4 a0_5 a0_6 l0_7 a0_8 l0_9 l0_10 a0_11) = some r := by rw [if_neg (show ¬ (false = true) by decide)] at H; exact H
   clear H
   have H := H1
   clear H1
   have H' := Aside0.mk H
   clear H
   obtain ⟨Z13_0, Z13_1, Z13_2, Z13_3, Z13_4, Z13_5, Z13_6, Z13_7, Z13_8, Z13_9, Z13_10, Z13_11, Y13_0, Y13_1, Y13_2, Y13_3, Y13_4, Y13_5, Y13_6, Y13_7, Y13_8, Y13_9, Y13_10, Y13_11⟩ := bc12 BK860.out
   go_wp2_with (first | ((with_reducible refine gate_callee (f := 20) rfl ?_); refine goesL_ (some 17) rfl rfl Try.func20 (by kernel_rfl) rfl #[.agg #[.bool a0_0, .bool a0_1, .bool a0_2, .int .i64 a0_3, .int .u16 a0_4, .int .u32 a0_5, .int .u32 a0_6, .slice A0_7 l0_7.length c0_7, .int .u16 a0_8, .slice A0_9 l0_9.length c0_9, .slice A0_10 l0_10.length c0_10, .int .i64 a0_11]] rfl (by (try simp only [List.map_toArray, List.map_cons, List.map_nil]); first | done | rfl | (simp only [List.length_drop, List.length_take]; rfl)) ?_; (with_reducible refine (crossbarref06_Short.calls a0_0 a0_1 a0_2 a0_3 a0_4 a0_5 a0_6 _ _ l0_7 a0_8 _ _ l0_9 _ _ l0_10 a0_11 false _ ?side1 ?side2 ?side3 ?side4 ?side5 ?side6 A9.out).mono ?_); (case side1 => exact cbE HR0_7 HB); (case side2 => exact HC0_7.out); (case side3 => exact cbE HR0_9 HB); (case side4 => exact HC0_9.out); (case side5 => exact cbE HR0_10 HB); (case side6 => exact HC0_10.out); rintro e w14 ⟨rfl, hb⟩; refine ⟨_, rfl, ?_⟩; replace BK860 := bbE BK860 hb; replace HB := bstE HB hb; (try clear hb); (try clear hb2); (try clear hk); (try clear hi)))
   go_meet
   case rel => exact ⟨_, (true), (by first | rfl | (simp; done) | (simp [*]; done)), H', ⟨by first | omega | exact Nat.le_refl _⟩, ⟨by (with_reducible repeat (first | refine blk_drewN ?_ _ | refine blk_drew ?_ | refine blk_alloc ?_ _)); exact BK860.out⟩, ⟨by repeat (first | (with_reducible first | exact HB.out | apply below_alloc | apply pw_below_drewN | apply below_drew1 | refine below_set ?_ GE860.out) | exact HB.out)⟩⟩
  case rest =>
   clear HC6
   try clear c1
   try clear c2
   try clear p2
   try clear c5
   try clear c6
   try clear c10
   try clear Z11_0 Z11_1 Z11_10 Z11_11 Z11_2 Z11_3 Z11_4 Z11_5 Z11_6 Z11_7 Z11_8 Z11_9
   try clear Z13_0 Z13_1 Z13_10 Z13_11 Z13_2 Z13_3 Z13_4 Z13_5 Z13_6 Z13_7 Z13_8 Z13_9
   try clear Y11_0 Y11_1 Y11_10 Y11_11 Y11_2 Y11_3 Y11_4 Y11_5 Y11_6 Y11_7 Y11_8 Y11_9
   try clear Y13_0 Y13_1 Y13_10 Y13_11 Y13_2 Y13_3 Y13_4 Y13_5 Y13_6 Y13_7 Y13_8 Y13_9
   obtain ⟨kq, x23_5, rfl, HA, HJ5, BK860, HB⟩ := hcut
   cases kq with
   | zero => exact absurd HA.out (by simp [crossbarlaw06_PacketRight.j0])
   | succ kj5 =>
    have H := HA.out
    clear HA
    simp only [crossbarlaw06_PacketRight.j0] at H
    by_cases c15 : x23_5 = true
    ·subst c15
     have H1 : (some true) = some r := by rw [if_pos rfl] at H; exact H
     clear H
     have H := H1
     clear H1
     obtain rfl := Option.some.inj H
     go_wp2
     go_ret
     exact ⟨by first | rfl | (simp [errW_none, errW_some] <;> rfl) | (simp [*, errW_none, errW_some] <;> rfl), by repeat (first | (with_reducible first | exact HB.out | apply below_alloc | apply pw_below_drewN | apply below_drew1 | refine below_set ?_ GE860.out) | exact HB.out)⟩
    replace c15 := Bool.eq_false_iff.mpr c15
    subst c15
    have H1 : ((crossbarref06_Right.f kj5 a0_0 a0_1 a0_2 a0_3 a0_4 a0_5 a0_6 l0_7 a0_8 l0_9 l0_10 a0_11).bind fun t863 => ((packet_Write.f kj5 a0_0 a0_1 a0_2 a0_3 a0_4 a0_5 a0_6 l0_7 a0_8 l0_9 l0_10 a0_11 a1).bind fun bt864 => (if t863 = true then ((crossbarref06_Size.f a0_0 a0_1 a0_2 a0_3 a0_4 a0_5 a0_6 l0_7 a0_8 l0_9 l0_10 a0_11).bind fun t868 => (if t868 > a1 then (if bt864.2 = 7 then (if (bt864.1.length : Int) = 0 then ((packet_Size.f kj5 a0_0 a0_1 a0_2 a0_3 a0_4 a0_5 a0_6 l0_7 a0_8 l0_9 l0_10 a0_11).bind fun t869 => ((crossbarref06_Size.f a0_0 a0_1 a0_2 a0_3 a0_4 a0_5 a0_6 l0_7 a0_8 l0_9 l0_10 a0_11).bind fun t870 => (if t869 = t870 then (crossbarlaw06_PacketRight.j1 kj5 l2 t863 a0_0 a0_1 a0_2 a0_3 a0_4 a0_5 a0_6 l0_7 a0_8 l0_9 l0_10 a0_11) else (none)))) else (none)) else (none)) else (if bt864.2 = 0 then ((crossbarref06_Write.f kj5 a0_0 a0_1 a0_2 a0_3 a0_4 a0_5 a0_6 l0_7 a0_8 l0_9 l0_10 a0_11).bind fun t871 => (if (strOfNums bt864.1).toList = (strOfNums t871).toList then ((packet_Size.f kj5 a0_0 a0_1 a0_2 a0_3 a0_4 a0_5 a0_6 l0_7 a0_8 l0_9 l0_10 a0_11).bind fun t874 => (if t874 = (bt864.1.length : Int) then (crossbarlaw06_PacketRight.j1 kj5 l2 t863 a0_0 a0_1 a0_2 a0_3 a0_4 a0_5 a0_6 l0_7 a0_8 l0_9 l0_10 a0_11) else (none))) else (none))) else (none)))) else (if bt864.2 = 1 then (if (bt864.1.length : Int) = 0 then ((packet_Size.f kj5 a0_0 a0_1 a0_2 a0_3 a0_4 a0_5 a0_6 l0_7 a0_8 l0_9 l0_10 a0_11).bind fun t875 => (if t875 = 0 then (crossbarlaw06_PacketRight.j1 kj5 l2 t863 a0_0 a0_1 a0_2 a0_3 a0_4 a0_5 a0_6 l0_7 a0_8 l0_9 l0_10 a0_11) else (none))) else (none)) else (none))))) = some r := by rw [if_neg (show ¬ (false = true) by decide)] at H; exact H
    clear H
    have H := H1
    clear H1
    replace H := Option.bind_eq_some_iff.mp H
    obtain ⟨t863, A160, H⟩ := H
    replace H : ((packet_Write.f kj5 a0_0 a0_1 a0_2 a0_3 a0_4 a0_5 a0_6 l0_7 a0_8 l0_9 l0_10 a0_11 a1).bind fun bt864 => (if t863 = true then ((crossbarref06_Size.f a0_0 a0_1 a0_2 a0_3 a0_4 a0_5 a0_6 l0_7 a0_8 l0_9 l0_10 a0_11).bind fun t868 => (if t868 > a1 then (if bt864.2 = 7 then (if (bt864.1.length : Int) = 0 then ((packet_Size.f kj5 a0_0 a0_1 a0_2 a0_3 a0_4 a0_5 a0_6 l0_7 a0_8 l0_9 l0_10 a0_11).bind fun t869 => ((crossbarref06_Size.f a0_0 a0_1 a0_2 a0_3 a0_4 a0_5 a0_6 l0_7 a0_8 l0_9 l0_10 a0_11).bind fun t870 => (if t869 = t870 then (crossbarlaw06_PacketRight.j1 kj5 l2 t863 a0_0 a0_1 a0_2 a0_3 a0_4 a0_5 a0_6 l0_7 a0_8 l0_9 l0_10 a0_11) else (none)))) else (none)) else (none)) else (if bt864.2 = 0 then ((crossbarref06_Write.f kj5 a0_0 a0_1 a0_2 a0_3 a0_4 a0_5 a0_6 l0_7 a0_8 l0_9 l0_10 a0_11).bind fun t871 => (if (strOfNums bt864.1).toList = (strOfNums t871).toList then ((packet_Size.f kj5 a0_0 a0_1 a0_2 a0_3 a0_4 a0_5 a0_6 l0_7 a0_8 l0_9 l0_10 a0_11).bind fun t874 => (if t874 = (bt864.1.length : Int) then (crossbarlaw06_PacketRight.j1 kj5 l2 t863 a0_0 a0_1 a0_2 a0_3 a0_4 a0_5 a0_6 l0_7 a0_8 l0_9 l0_10 a0_11) else (none))) else (none))) else (none)))) else (if bt864.2 = 1 then (if (bt864.1.length : Int) = 0 then ((packet_Size.f kj5 a0_0 a0_1 a0_2 a0_3 a0_4 a0_5 a0_6 l0_7 a0_8 l0_9 l0_10 a0_11).bind fun t875 => (if t875 = 0 then (crossbarlaw06_PacketRight.j1 kj5 l2 t863 a0_0 a0_1 a0_2 a0_3 a0_4 a0_5 a0_6 l0_7 a0_8 l0_9 l0_10 a0_11) else (none))) else (none)) else (none)))) = some r := H
    have A16 := Aside0.mk A160
    clear A160
    replace H := Option.bind_eq_some_iff.mp H
    obtain ⟨⟨t864, t867⟩, A170, H⟩ := H
    replace H : (if t863 = true then ((crossbarref06_Size.f a0_0 a0_1 a0_2 a0_3 a0_4 a0_5 a0_6 l0_7 a0_8 l0_9 l0_10 a0_11).bind fun t868 => (if t868 > a1 then (if t867 = 7 then (if (t864.length : Int) = 0 then ((packet_Size.f kj5 a0_0 a0_1 a0_2 a0_3 a0_4 a0_5 a0_6 l0_7 a0_8 l0_9 l0_10 a0_11).bind fun t869 => ((crossbarref06_Size.f a0_0 a0_1 a0_2 a0_3 a0_4 a0_5 a0_6 l0_7 a0_8 l0_9 l0_10 a0_11).bind fun t870 => (if t869 = t870 then (crossbarlaw06_PacketRight.j1 kj5 l2 t863 a0_0 a0_1 a0_2 a0_3 a0_4 a0_5 a0_6 l0_7 a0_8 l0_9 l0_10 a0_11) else (none)))) else (none)) else (none)) else (if t867 = 0 then ((crossbarref06_Write.f kj5 a0_0 a0_1 a0_2 a0_3 a0_4 a0_5 a0_6 l0_7 a0_8 l0_9 l0_10 a0_11).bind fun t871 => (if (strOfNums t864).toList = (strOfNums t871).toList then ((packet_Size.f kj5 a0_0 a0_1 a0_2 a0_3 a0_4 a0_5 a0_6 l0_7 a0_8 l0_9 l0_10 a0_11).bind fun t874 => (if t874 = (t864.length : Int) then (crossbarlaw06_PacketRight.j1 kj5 l2 t863 a0_0 a0_1 a0_2 a0_3 a0_4 a0_5 a0_6 l0_7 a0_8 l0_9 l0_10 a0_11) else (none))) else (none))) else (none)))) else (if t867 = 1 then (if (t864.length : Int) = 0 then ((packet_Size.f kj5 a0_0 a0_1 a0_2 a0_3 a0_4 a0_5 a0_6 l0_7 a0_8 l0_9 l0_10 a0_11).bind fun t875 => (if t875 = 0 then (crossbarlaw06_PacketRight.j1 kj5 l2 t863 a0_0 a0_1 a0_2 a0_3 a0_4 a0_5 a0_6 l0_7 a0_8 l0_9 l0_10 a0_11) else (none))) else (none)) else (none))) = some r := H
    have A17 := Aside0.mk A170
    clear A170
    have HC18 := Aside0.mk H
    clear H
    obtain ⟨Z19_0, Z19_1, Z19_2, Z19_3, Z19_4, Z19_5, Z19_6, Z19_7, Z19_8, Z19_9, Z19_10, Z19_11, Y19_0, Y19_1, Y19_2, Y19_3, Y19_4, Y19_5, Y19_6, Y19_7, Y19_8, Y19_9, Y19_10, Y19_11⟩ := bc12 BK860.out
    go_upto_block 0 with (first | ((with_reducible refine gate_callee (f := 21) rfl ?_); refine goesL_ (some 25) rfl rfl Try.func21 (by kernel_rfl) rfl #[.agg #[.bool a0_0, .bool a0_1, .bool a0_2, .int .i64 a0_3, .int .u16 a0_4, .int .u32 a0_5, .int .u32 a0_6, .slice A0_7 l0_7.length c0_7, .int .u16 a0_8, .slice A0_9 l0_9.length c0_9, .slice A0_10 l0_10.length c0_10, .int .i64 a0_11]] rfl (by (try simp only [List.map_toArray, List.map_cons, List.map_nil]); first | done | rfl | (simp only [List.length_drop, List.length_take]; rfl)) ?_; (with_reducible refine (crossbarref06_Right.calls kj5 a0_0 a0_1 a0_2 a0_3 a0_4 a0_5 a0_6 _ _ l0_7 a0_8 _ _ l0_9 _ _ l0_10 a0_11 t863 _ ?side1 ?side2 ?side3 ?side4 ?side5 ?side6 A16.out).mono ?_); (case side1 => exact cbE HR0_7 HB); (case side2 => exact HC0_7.out); (case side3 => exact cbE HR0_9 HB); (case side4 => exact HC0_9.out); (case side5 => exact cbE HR0_10 HB); (case side6 => exact HC0_10.out); rintro e w20 ⟨rfl, hb⟩; refine ⟨_, rfl, ?_⟩; replace BK860 := bbE BK860 hb; replace HB := bstE HB hb; (try clear hb); (try clear hb2); (try clear hk); (try clear hi); obtain ⟨Z21_0, Z21_1, Z21_2, Z21_3, Z21_4, Z21_5, Z21_6, Z21_7, Z21_8, Z21_9, Z21_10, Z21_11, Y21_0, Y21_1, Y21_2, Y21_3, Y21_4, Y21_5, Y21_6, Y21_7, Y21_8, Y21_9, Y21_10, Y21_11⟩ := bc12 BK860.out) | ((with_reducible refine gate_callee (f := 22) rfl ?_); refine goesL_ (some 29) rfl rfl Try.func22 (by kernel_rfl) rfl #[.agg #[.bool a0_0, .bool a0_1, .bool a0_2, .int .i64 a0_3, .int .u16 a0_4, .int .u32 a0_5, .int .u32 a0_6, .slice A0_7 l0_7.length c0_7, .int .u16 a0_8, .slice A0_9 l0_9.length c0_9, .slice A0_10 l0_10.length c0_10, .int .i64 a0_11], .int .i64 a1] rfl (by (try simp only [List.map_toArray, List.map_cons, List.map_nil]); first | done | rfl | (simp only [List.length_drop, List.length_take]; rfl)) ?_; (with_reducible refine (packet_Write.calls kj5 a0_0 a0_1 a0_2 a0_3 a0_4 a0_5 a0_6 _ _ l0_7 a0_8 (fun k_ => k_ < w.heap.size) _ _ l0_9 (fun k_ => k_ < w.heap.size) _ _ l0_10 a0_11 a1 t864 t867 _ ?side1 ?side2 ?side3 ?side4 A17.out).mono ?_); (case side1 => exact cbE HR0_7 HB); (case side2 => exact HC0_7.out); (case side3 => exact Kd.V_mk HC0_9.out (Kd.F_below (Kd.C_F (Kd.heap_int .u8) HR0_9.out) (pB HB))); (case side4 => exact Kd.V_mk HC0_10.out (Kd.F_below (Kd.C_F (Kd.heap_int .u8) HR0_10.out) (pB HB))); rintro e w22 ⟨v865, rfl, ho0, hb⟩; refine ⟨_, rfl, ?_⟩; have HO866 := Aside0.mk (Kd.R_lower (Kd.R_mono (ok' := fun k_ => True) ho0 (fun _ hk_ => trivial)) (below_size (pB HB))); replace BK860 := bbE BK860 hb; replace HB := bstE HB hb; (try clear hb); (try clear hb2); (try clear hk); (try clear hi); (try clear ho0)))
    (try simp only [Act.put, List.setIfInBounds_toArray, List.set_cons_zero, List.set_cons_succ])
    go_cut [] (fun wc => ∃ (kq : Nat), Aside0 (crossbarlaw06_PacketRight.j1 kq l2 t863 a0_0 a0_1 a0_2 a0_3 a0_4 a0_5 a0_6 l0_7 a0_8 l0_9 l0_10 a0_11 = some r) ∧ Aside0 (kq ≤ kj5) ∧ Aside0 (wc.heap[gb860]? = some (.cells #[.bool a0_0, .bool a0_1, .bool a0_2, .int .i64 a0_3, .int .u16 a0_4, .int .u32 a0_5, .int .u32 a0_6, (.slice A0_7 l0_7.length c0_7), .int .u16 a0_8, (.slice A0_9 l0_9.length c0_9), (.slice A0_10 l0_10.length c0_10), .int .i64 a0_11] 45 (0, 0))) ∧ Aside0 (Below w.heap.size w wc))
    case first =>
     have H := HC18.out
     clear HC18
     by_cases c23 : t863 = true
     ·subst c23
      have H1 : ((crossbarref06_Size.f a0_0 a0_1 a0_2 a0_3 a0_4 a0_5 a0_6 l0_7 a0_8 l0_9 l0_10 a0_11).bind fun t868 => (if t868 > a1 then (if t867 = 7 then (if (t864.length : Int) = 0 then ((packet_Size.f kj5 a0_0 a0_1 a0_2 a0_3 a0_4 a0_5 a0_6 l0_7 a0_8 l0_9 l0_10 a0_11).bind fun t869 => ((crossbarref06_Size.f a0_0 a0_1 a0_2 a0_3 a0_4 a0_5 a0_6 l0_7 a0_8 l0_9 l0_10 a0_11).bind fun t870 => (if t869 = t870 then (crossbarlaw06_PacketRight.j1 kj5 l2 true a0_0 a0_1 a0_2 a0_3 a0_4 a0_5 a0_6 l0_7 a0_8 l0_9 l0_10 a0_11) else (none)))) else (none)) else (none)) else (if t867 = 0 then ((crossbarref06_Write.f kj5 a0_0 a0_1 a0_2 a0_3 a0_4 a0_5 a0_6 l0_7 a0_8 l0_9 l0_10 a0_11).bind fun t871 => (if (strOfNums t864).toList = (strOfNums t871).toList then ((packet_Size.f kj5 a0_0 a0_1 a0_2 a0_3 a0_4 a0_5 a0_6 l0_7 a0_8 l0_9 l0_10 a0_11).bind fun t874 => (if t874 = (t864.length : Int) then (crossbarlaw06_PacketRight.j1 kj5 l2 true a0_0 a0_1 a0_2 a0_3 a0_4 a0_5 a0_6 l0_7 a0_8 l0_9 l0_10 a0_11) else (none))) else (none))) else (none)))) = some r := by rw [if_pos rfl] at H; exact H
      clear H
      have H := H1
      clear H1
      replace H := Option.bind_eq_some_iff.mp H
      obtain ⟨t868, A240, H⟩ := H
      replace H : (if t868 > a1 then (if t867 = 7 then (if (t864.length : Int) = 0 then ((packet_Size.f kj5 a0_0 a0_1 a0_2 a0_3 a0_4 a0_5 a0_6 l0_7 a0_8 l0_9 l0_10 a0_11).bind fun t869 => ((crossbarref06_Size.f a0_0 a0_1 a0_2 a0_3 a0_4 a0_5 a0_6 l0_7 a0_8 l0_9 l0_10 a0_11).bind fun t870 => (if t869 = t870 then (crossbarlaw06_PacketRight.j1 kj5 l2 true a0_0 a0_1 a0_2 a0_3 a0_4 a0_5 a0_6 l0_7 a0_8 l0_9 l0_10 a0_11) else (none)))) else (none)) else (none)) else (if t867 = 0 then ((crossbarref06_Write.f kj5 a0_0 a0_1 a0_2 a0_3 a0_4 a0_5 a0_6 l0_7 a0_8 l0_9 l0_10 a0_11).bind fun t871 => (if (strOfNums t864).toList = (strOfNums t871).toList then ((packet_Size.f kj5 a0_0 a0_1 a0_2 a0_3 a0_4 a0_5 a0_6 l0_7 a0_8 l0_9 l0_10 a0_11).bind fun t874 => (if t874 = (t864.length : Int) then (crossbarlaw06_PacketRight.j1 kj5 l2 true a0_0 a0_1 a0_2 a0_3 a0_4 a0_5 a0_6 l0_7 a0_8 l0_9 l0_10 a0_11) else (none))) else (none))) else (none))) = some r := H
      have A24 := Aside0.mk A240
      clear A240
      by_cases c25 : t868 > a1
      ·rw [if_pos c25] at H
       have c25b0 : decide (a1 < t868) = true := decide_eq_true c25
       clear c25
       (first | rw [c25b0] | (simp only [i64_w, i32_w]; rw [c25b0]) | skip)
       by_cases c26 : t867 = 7
       ·rw [if_pos c26] at H
        have c26b0 : (t867 == 7) = true := beq_iff_eq.mpr c26
        have c26b1 : (t867 != 7) = false := bne_eq_false_iff_eq.mpr c26
        clear c26
        by_cases c27 : (t864.length : Int) = 0
        ·rw [if_pos c27] at H
         have c27b0 : ((t864.length : Int) == 0) = true := beq_iff_eq.mpr c27
         have c27b1 : ((t864.length : Int) != 0) = false := bne_eq_false_iff_eq.mpr c27
         clear c27
         replace H := Option.bind_eq_some_iff.mp H
         obtain ⟨t869, A280, H⟩ := H
         replace H : ((crossbarref06_Size.f a0_0 a0_1 a0_2 a0_3 a0_4 a0_5 a0_6 l0_7 a0_8 l0_9 l0_10 a0_11).bind fun t870 => (if t869 = t870 then (crossbarlaw06_PacketRight.j1 kj5 l2 true a0_0 a0_1 a0_2 a0_3 a0_4 a0_5 a0_6 l0_7 a0_8 l0_9 l0_10 a0_11) else (none))) = some r := H
         have A28 := Aside0.mk A280
         clear A280
         replace H := Option.bind_eq_some_iff.mp H
         obtain ⟨t870, A290, H⟩ := H
         replace H : (if t869 = t870 then (crossbarlaw06_PacketRight.j1 kj5 l2 true a0_0 a0_1 a0_2 a0_3 a0_4 a0_5 a0_6 l0_7 a0_8 l0_9 l0_10 a0_11) else (none)) = some r := H
         have A29 := Aside0.mk A290
         clear A290
         by_cases c30 : t869 = t870
         ·rw [if_pos c30] at H
          have c30b0 : (t869 == t870) = true := beq_iff_eq.mpr c30
          have c30b1 : (t869 != t870) = false := bne_eq_false_iff_eq.mpr c30
          clear c30
          have H' := Aside0.mk H
          clear H
          obtain ⟨Z31_0, Z31_1, Z31_2, Z31_3, Z31_4, Z31_5, Z31_6, Z31_7, Z31_8, Z31_9, Z31_10, Z31_11, Y31_0, Y31_1, Y31_2, Y31_3, Y31_4, Y31_5, Y31_6, Y31_7, Y31_8, Y31_9, Y31_10, Y31_11⟩ := bc12 BK860.out
          try go_wp2_with (first | ((with_reducible refine gate_callee (f := 24) rfl ?_); refine goesL_ (some 66) rfl rfl Try.func24 (by kernel_rfl) rfl #[.agg #[.bool a0_0, .bool a0_1, .bool a0_2, .int .i64 a0_3, .int .u16 a0_4, .int .u32 a0_5, .int .u32 a0_6, .slice A0_7 l0_7.length c0_7, .int .u16 a0_8, .slice A0_9 l0_9.length c0_9, .slice A0_10 l0_10.length c0_10, .int .i64 a0_11]] rfl (by (try simp only [List.map_toArray, List.map_cons, List.map_nil]); first | done | rfl | (simp only [List.length_drop, List.length_take]; rfl)) ?_; (with_reducible refine (crossbarref06_Size.calls a0_0 a0_1 a0_2 a0_3 a0_4 a0_5 a0_6 _ _ l0_7 a0_8 _ _ l0_9 _ _ l0_10 a0_11 t868 _ ?side1 ?side2 ?side3 ?side4 ?side5 ?side6 A24.out).mono ?_); (case side1 => exact cbE HR0_7 HB); (case side2 => exact HC0_7.out); (case side3 => exact cbE HR0_9 HB); (case side4 => exact HC0_9.out); (case side5 => exact cbE HR0_10 HB); (case side6 => exact HC0_10.out); rintro e w32 ⟨rfl, hb⟩; refine ⟨_, rfl, ?_⟩; replace HO866 := rbE HO866 hb; replace BK860 := bbE BK860 hb; replace HB := bstE HB hb; (try clear hb); (try clear hb2); (try clear hk); (try clear hi)))
          replace HO866 := Aside0.mk (Kd.R_drew HO866.out)
          replace BK860 := Aside0.mk (blk_drew BK860.out)
          replace HB := Aside0.mk (below_drew1 HB.out)
          obtain ⟨Ao34, co34, eo34⟩ := Kd.R_slice HO866.out
          (first | subst eo34 | (injection eo34 with f1_ f2_ f3_; have f4_ := f1_.symm; have f5_ := f3_.symm; clear f1_ f2_ f3_; subst f4_; subst f5_))
          refine start_ (n := 14) (S := fun w' => w'.cell? ⟨gb860, 0, none⟩ = some (.bool a0_0) ∧ w'.cell? ⟨gb860, 1, none⟩ = some (.bool a0_1) ∧ w'.cell? ⟨gb860, 2, none⟩ = some (.bool a0_2) ∧ w'.cell? ⟨gb860, 3, none⟩ = some (.int .i64 a0_3) ∧ w'.cell? ⟨gb860, 4, none⟩ = some (.int .u16 a0_4) ∧ w'.cell? ⟨gb860, 5, none⟩ = some (.int .u32 a0_5) ∧ w'.cell? ⟨gb860, 6, none⟩ = some (.int .u32 a0_6) ∧ w'.cell? ⟨gb860, 7, none⟩ = some (.slice A0_7 l0_7.length c0_7) ∧ w'.cell? ⟨gb860, 8, none⟩ = some (.int .u16 a0_8) ∧ w'.cell? ⟨gb860, 9, none⟩ = some (.slice A0_9 l0_9.length c0_9) ∧ w'.cell? ⟨gb860, 10, none⟩ = some (.slice A0_10 l0_10.length c0_10) ∧ w'.cell? ⟨gb860, 11, none⟩ = some (.int .i64 a0_11)) (ds := []) #[false, false, false, false, false, false, false, false, false, false, false, false, false, false] (by kernel_rfl) rfl rfl ⟨(blk_cell BK860.out 0).trans rfl, (blk_cell BK860.out 1).trans rfl, (blk_cell BK860.out 2).trans rfl, (blk_cell BK860.out 3).trans rfl, (blk_cell BK860.out 4).trans rfl, (blk_cell BK860.out 5).trans rfl, (blk_cell BK860.out 6).trans rfl, (blk_cell BK860.out 7).trans rfl, (blk_cell BK860.out 8).trans rfl, (blk_cell BK860.out 9).trans rfl, (blk_cell BK860.out 10).trans rfl, (blk_cell BK860.out 11).trans rfl⟩ (fun hHeld => ?_); refine with_tabW crossbarlaw06_PacketRight.tab13 crossbarlaw06_PacketRight.bits13 (fun HT_ HW_ => ?_)
          generalize w32.drew = w33 at HO866 BK860 HB hHeld ⊢
          refine pure_ (i := 0) (N := some 69) (v := ?_) (a' := ?_) #[true, false, false, false, false, false, false, false, false, false, false, false, false, false] rfl rfl (any_of HT_.out (by kernel_rfl)) (fun _ _ _ h => h) (Or.inl ⟨by rfl, ?_⟩) ?_ ?_
          rotate_left
          ·intro w'
           go_simp
           with_reducible rfl
          rotate_left
          ·simp only [Act.put, List.setIfInBounds_toArray, List.set_cons_zero, List.set_cons_succ, i64_w, i32_w]
           rfl
          refine pure_ (i := 1) (N := some 70) (v := ?_) (a' := ?_) #[true, true, false, false, false, false, false, false, false, false, false, false, false, false] rfl rfl (any_of HT_.out (by kernel_rfl)) (fun _ _ _ h => h) (Or.inl ⟨by rfl, ?_⟩) ?_ ?_
          rotate_left
          ·intro w'
           go_simp
           with_reducible rfl
          rotate_left
          ·simp only [Act.put, List.setIfInBounds_toArray, List.set_cons_zero, List.set_cons_succ, i64_w, i32_w]
           rfl
          refine pure_ (i := 2) (N := some 71) (v := ?_) (a' := ?_) #[true, true, true, false, false, false, false, false, false, false, false, false, false, false] rfl rfl (any_of HT_.out (by kernel_rfl)) (fun _ _ _ h => h) (Or.inl ⟨by rfl, ?_⟩) ?_ ?_
          rotate_left
          ·intro w'
           go_simp
           with_reducible rfl
          rotate_left
          ·simp only [Act.put, List.setIfInBounds_toArray, List.set_cons_zero, List.set_cons_succ, i64_w, i32_w]
           rfl
          refine pure_ (i := 3) (N := some 72) (v := ?_) (a' := ?_) #[true, true, true, true, false, false, false, false, false, false, false, false, false, false] rfl rfl (any_of HT_.out (by kernel_rfl)) (fun _ _ _ h => h) (Or.inl ⟨by rfl, ?_⟩) ?_ ?_
          rotate_left
          ·intro w'
           go_simp
           with_reducible rfl
          rotate_left
          ·simp only [Act.put, List.setIfInBounds_toArray, List.set_cons_zero, List.set_cons_succ, i64_w, i32_w]
           rfl
          refine pure_ (i := 4) (N := some 73) (v := ?_) (a' := ?_) #[true, true, true, true, true, false, false, false, false, false, false, false, false, false] rfl rfl (any_of HT_.out (by kernel_rfl)) (fun _ _ _ h => h) (Or.inl ⟨by rfl, ?_⟩) ?_ ?_
          rotate_left
          ·intro w'
           go_simp
           with_reducible rfl
          rotate_left
          ·simp only [Act.put, List.setIfInBounds_toArray, List.set_cons_zero, List.set_cons_succ, i64_w, i32_w]
           rfl
          refine pure_ (i := 5) (N := some 74) (v := ?_) (a' := ?_) #[true, true, true, true, true, true, false, false, false, false, false, false, false, false] rfl rfl (any_of HT_.out (by kernel_rfl)) (fun _ _ _ h => h) (Or.inl ⟨by rfl, ?_⟩) ?_ ?_
          rotate_left
          ·intro w'
           go_simp
           with_reducible rfl
          rotate_left
          ·simp only [Act.put, List.setIfInBounds_toArray, List.set_cons_zero, List.set_cons_succ, i64_w, i32_w]
           rfl
          refine pure_ (i := 6) (N := some 75) (v := ?_) (a' := ?_) #[true, true, true, true, true, true, true, false, false, false, false, false, false, false] rfl rfl (any_of HT_.out (by kernel_rfl)) (fun _ _ _ h => h) (Or.inl ⟨by rfl, ?_⟩) ?_ ?_
          rotate_left
          ·intro w'
           go_simp
           with_reducible rfl
          rotate_left
          ·simp only [Act.put, List.setIfInBounds_toArray, List.set_cons_zero, List.set_cons_succ, i64_w, i32_w]
           rfl
          refine pure_ (i := 7) (N := some 76) (v := ?_) (a' := ?_) #[true, true, true, true, true, true, true, true, false, false, false, false, false, false] rfl rfl (any_of HT_.out (by kernel_rfl)) (fun _ _ _ h => h) (Or.inl ⟨by rfl, ?_⟩) ?_ ?_
          rotate_left
          ·intro w'
           go_simp
           with_reducible rfl
          rotate_left
          ·simp only [Act.put, List.setIfInBounds_toArray, List.set_cons_zero, List.set_cons_succ, i64_w, i32_w]
           rfl
          refine take_ (i := 8) (N := some 77) (v := ?_) (a' := ?_) #[true, true, true, true, true, true, true, true, true, false, false, false, false, false] rfl rfl (take_ofW HT_.out HW_.out (by kernel_rfl)) (fun _ _ _ h => h) (Or.inl ⟨by rfl, ?_⟩) hHeld ?_ ?_
          rotate_left
          ·rintro w' ⟨s0, s1, s2, s3, s4, s5, s6, s7, s8, s9, s10, s11⟩
           go_simp
           with_reducible rfl
          rotate_left
          ·simp only [Act.put, List.setIfInBounds_toArray, List.set_cons_zero, List.set_cons_succ, i64_w, i32_w]
           rfl
          refine take_ (i := 10) (N := some 79) (v := ?_) (a' := ?_) #[true, true, true, true, true, true, true, true, true, false, true, false, false, false] rfl rfl (take_ofW HT_.out HW_.out (by kernel_rfl)) (fun _ _ _ h => h) (Or.inl ⟨by rfl, ?_⟩) hHeld ?_ ?_
          rotate_left
          ·rintro w' ⟨s0, s1, s2, s3, s4, s5, s6, s7, s8, s9, s10, s11⟩
           go_simp
           with_reducible rfl
          rotate_left
          ·simp only [Act.put, List.setIfInBounds_toArray, List.set_cons_zero, List.set_cons_succ, i64_w, i32_w]
           rfl
          refine one_ (i := 9) (N := some 78) #[true, true, true, true, true, true, true, true, true, true, true, false, false, false] rfl rfl (one_of HT_.out (by kernel_rfl)) (by decide) (fun K hK => ?_)
          refine goes_ Try.func23 (by kernel_rfl) rfl #[.agg #[.bool a0_0, .bool a0_1, .bool a0_2, .int .i64 a0_3, .int .u16 a0_4, .int .u32 a0_5, .int .u32 a0_6, .slice A0_7 l0_7.length c0_7, .int .u16 a0_8, .slice A0_9 l0_9.length c0_9, .slice A0_10 l0_10.length c0_10, .int .i64 a0_11]] (by rfl) rfl rfl (by (try simp only [List.map_toArray, List.map_cons, List.map_nil]); first | done | rfl | (simp only [List.length_drop, List.length_take]; rfl)) ?_
          with_reducible refine (packet_Size.calls kj5 a0_0 a0_1 a0_2 a0_3 a0_4 a0_5 a0_6 _ _ l0_7 a0_8 _ _ l0_9 _ _ l0_10 a0_11 t869 _ ?side1 ?side2 ?side3 ?side4 ?side5 ?side6 A28.out).mono ?_
          (case side1 => exact cbE HR0_7 HB)
          (case side2 => exact HC0_7.out)
          (case side3 => exact cbE HR0_9 HB)
          (case side4 => exact HC0_9.out)
          (case side5 => exact cbE HR0_10 HB)
          (case side6 => exact HC0_10.out)
          rintro e w35 ⟨rfl, hb⟩
          refine ⟨_, rfl, ?_⟩
          replace HO866 := rbE HO866 hb
          replace BK860 := bbE BK860 hb
          replace HB := bstE HB hb
          (try clear hb)
          (try clear hb2)
          (try clear hk)
          (try clear hi)
          refine hK.out _ _ ⟨(blk_cell BK860.out 0).trans rfl, (blk_cell BK860.out 1).trans rfl, (blk_cell BK860.out 2).trans rfl, (blk_cell BK860.out 3).trans rfl, (blk_cell BK860.out 4).trans rfl, (blk_cell BK860.out 5).trans rfl, (blk_cell BK860.out 6).trans rfl, (blk_cell BK860.out 7).trans rfl, (blk_cell BK860.out 8).trans rfl, (blk_cell BK860.out 9).trans rfl, (blk_cell BK860.out 10).trans rfl, (blk_cell BK860.out 11).trans rfl⟩ (fun hHeld => ?_)
          clear hK K
          refine norm_ (a' := ?_) ?_ ?_
          rotate_left
          ·show Act.put _ (some 78) _ = _
           simp only [Act.put, List.setIfInBounds_toArray, List.set_cons_zero, List.set_cons_succ, i64_w, i32_w]
           rfl
          refine one_ (i := 11) (N := some 80) #[true, true, true, true, true, true, true, true, true, true, true, true, false, false] rfl rfl (one_of HT_.out (by kernel_rfl)) (by decide) (fun K hK => ?_)
          refine goes_ Try.func24 (by kernel_rfl) rfl #[.agg #[.bool a0_0, .bool a0_1, .bool a0_2, .int .i64 a0_3, .int .u16 a0_4, .int .u32 a0_5, .int .u32 a0_6, .slice A0_7 l0_7.length c0_7, .int .u16 a0_8, .slice A0_9 l0_9.length c0_9, .slice A0_10 l0_10.length c0_10, .int .i64 a0_11]] (by rfl) rfl rfl (by (try simp only [List.map_toArray, List.map_cons, List.map_nil]); first | done | rfl | (simp only [List.length_drop, List.length_take]; rfl)) ?_
          with_reducible refine (crossbarref06_Size.calls a0_0 a0_1 a0_2 a0_3 a0_4 a0_5 a0_6 _ _ l0_7 a0_8 _ _ l0_9 _ _ l0_10 a0_11 t870 _ ?side1 ?side2 ?side3 ?side4 ?side5 ?side6 A29.out).mono ?_
          (case side1 => exact cbE HR0_7 HB)
          (case side2 => exact HC0_7.out)
          (case side3 => exact cbE HR0_9 HB)
          (case side4 => exact HC0_9.out)
          (case side5 => exact cbE HR0_10 HB)
          (case side6 => exact HC0_10.out)
          rintro e w36 ⟨rfl, hb⟩
          refine ⟨_, rfl, ?_⟩
          replace HO866 := rbE HO866 hb
          replace BK860 := bbE BK860 hb
          replace HB := bstE HB hb
          (try clear hb)
          (try clear hb2)
          (try clear hk)
          (try clear hi)
          refine hK.out _ _ ⟨(blk_cell BK860.out 0).trans rfl, (blk_cell BK860.out 1).trans rfl, (blk_cell BK860.out 2).trans rfl, (blk_cell BK860.out 3).trans rfl, (blk_cell BK860.out 4).trans rfl, (blk_cell BK860.out 5).trans rfl, (blk_cell BK860.out 6).trans rfl, (blk_cell BK860.out 7).trans rfl, (blk_cell BK860.out 8).trans rfl, (blk_cell BK860.out 9).trans rfl, (blk_cell BK860.out 10).trans rfl, (blk_cell BK860.out 11).trans rfl⟩ (fun hHeld => ?_)
          clear hK K
          refine norm_ (a' := ?_) ?_ ?_
          rotate_left
          ·show Act.put _ (some 80) _ = _
           simp only [Act.put, List.setIfInBounds_toArray, List.set_cons_zero, List.set_cons_succ, i64_w, i32_w]
           rfl
          refine pure_ (i := 12) (N := some 81) (v := ?_) (a' := ?_) #[true, true, true, true, true, true, true, true, true, true, true, true, true, false] rfl rfl (any_of HT_.out (by kernel_rfl)) (fun _ _ _ h => h) (Or.inl ⟨by rfl, ?_⟩) ?_ ?_
          rotate_left
          ·intro w'
           go_simp
           with_reducible rfl
          rotate_left
          ·simp only [Act.put, List.setIfInBounds_toArray, List.set_cons_zero, List.set_cons_succ, i64_w, i32_w]
           rfl
          refine pure_ (i := 13) (N := some 82) (v := ?_) (a' := ?_) #[true, true, true, true, true, true, true, true, true, true, true, true, true, true] rfl rfl (any_of HT_.out (by kernel_rfl)) (fun _ _ _ h => h) (Or.inl ⟨by rfl, ?_⟩) ?_ ?_
          rotate_left
          ·intro w'
           go_simp
           with_reducible rfl
          rotate_left
          ·simp only [Act.put, List.setIfInBounds_toArray, List.set_cons_zero, List.set_cons_succ, i64_w, i32_w]
           rfl
          refine done_ (done_of HT_.out (by kernel_rfl)) ?_
          try go_wp2
          go_meet
          case rel => exact ⟨_, H', ⟨by have := HJ5.out; first | omega | exact Nat.le_refl _⟩, ⟨by (with_reducible repeat (first | refine blk_drewN ?_ _ | refine blk_drew ?_ | refine blk_alloc ?_ _)); exact BK860.out⟩, ⟨by repeat (first | (with_reducible first | exact HB.out | apply below_alloc | apply pw_below_drewN | apply below_drew1 | refine below_set ?_ GE860.out) | exact HB.out)⟩⟩
         rw [if_neg c30] at H
         exact absurd H (by simp)
        rw [if_neg c27] at H
        have c27b0 : ((t864.length : Int) == 0) = false := beq_eq_false_iff_ne.mpr c27
        have c27b1 : ((t864.length : Int) != 0) = true := bne_iff_ne.mpr c27
        have c27b2 : ¬ (t864 = []) := fun h_ => c27 (by rw [h_]; rfl)
        exact absurd H (by simp)
       rw [if_neg c26] at H
       have c26b0 : (t867 == 7) = false := beq_eq_false_iff_ne.mpr c26
       have c26b1 : (t867 != 7) = true := bne_iff_ne.mpr c26
       exact absurd H (by simp)
      rw [if_neg c25] at H
      have c25b0 : decide (a1 < t868) = false := decide_eq_false c25
      clear c25
      (first | rw [c25b0] | (simp only [i64_w, i32_w]; rw [c25b0]) | skip)
      by_cases c37 : t867 = 0
      ·rw [if_pos c37] at H
       have c37b0 : (t867 == 0) = true := beq_iff_eq.mpr c37
       have c37b1 : (t867 != 0) = false := bne_eq_false_iff_eq.mpr c37
       clear c37
       replace H := Option.bind_eq_some_iff.mp H
       obtain ⟨t871, A380, H⟩ := H
       replace H : (if (strOfNums t864).toList = (strOfNums t871).toList then ((packet_Size.f kj5 a0_0 a0_1 a0_2 a0_3 a0_4 a0_5 a0_6 l0_7 a0_8 l0_9 l0_10 a0_11).bind fun t874 => (if t874 = (t864.length : Int) then (crossbarlaw06_PacketRight.j1 kj5 l2 true a0_0 a0_1 a0_2 a0_3 a0_4 a0_5 a0_6 l0_7 a0_8 l0_9 l0_10 a0_11) else (none))) else (none)) = some r := H
       have A38 := Aside0.mk A380
       clear A380
       by_cases c39 : (strOfNums t864).toList = (strOfNums t871).toList
       ·rw [if_pos c39] at H
        have c39b0 : ((strOfNums t864).toList == (strOfNums t871).toList) = true := beq_iff_eq.mpr c39
        have c39b1 : ((strOfNums t864).toList != (strOfNums t871).toList) = false := bne_eq_false_iff_eq.mpr c39
        clear c39
        replace H := Option.bind_eq_some_iff.mp H
        obtain ⟨t874, A400, H⟩ := H
        replace H : (if t874 = (t864.length : Int) then (crossbarlaw06_PacketRight.j1 kj5 l2 true a0_0 a0_1 a0_2 a0_3 a0_4 a0_5 a0_6 l0_7 a0_8 l0_9 l0_10 a0_11) else (none)) = some r := H
        have A40 := Aside0.mk A400
        clear A400
        by_cases c41 : t874 = (t864.length : Int)
        ·rw [if_pos c41] at H
         have c41b0 : (t874 == (t864.length : Int)) = true := beq_iff_eq.mpr c41
         have c41b1 : (t874 != (t864.length : Int)) = false := bne_eq_false_iff_eq.mpr c41
         clear c41
         have H' := Aside0.mk H
         clear H
         obtain ⟨Z42_0, Z42_1, Z42_2, Z42_3, Z42_4, Z42_5, Z42_6, Z42_7, Z42_8, Z42_9, Z42_10, Z42_11, Y42_0, Y42_1, Y42_2, Y42_3, Y42_4, Y42_5, Y42_6, Y42_7, Y42_8, Y42_9, Y42_10, Y42_11⟩ := bc12 BK860.out
         try go_wp2_with (first | ((with_reducible refine gate_callee (f := 24) rfl ?_); refine goesL_ (some 66) rfl rfl Try.func24 (by kernel_rfl) rfl #[.agg #[.bool a0_0, .bool a0_1, .bool a0_2, .int .i64 a0_3, .int .u16 a0_4, .int .u32 a0_5, .int .u32 a0_6, .slice A0_7 l0_7.length c0_7, .int .u16 a0_8, .slice A0_9 l0_9.length c0_9, .slice A0_10 l0_10.length c0_10, .int .i64 a0_11]] rfl (by (try simp only [List.map_toArray, List.map_cons, List.map_nil]); first | done | rfl | (simp only [List.length_drop, List.length_take]; rfl)) ?_; (with_reducible refine (crossbarref06_Size.calls a0_0 a0_1 a0_2 a0_3 a0_4 a0_5 a0_6 _ _ l0_7 a0_8 _ _ l0_9 _ _ l0_10 a0_11 t868 _ ?side1 ?side2 ?side3 ?side4 ?side5 ?side6 A24.out).mono ?_); (case side1 => exact cbE HR0_7 HB); (case side2 => exact HC0_7.out); (case side3 => exact cbE HR0_9 HB); (case side4 => exact HC0_9.out); (case side5 => exact cbE HR0_10 HB); (case side6 => exact HC0_10.out); rintro e w43 ⟨rfl, hb⟩; refine ⟨_, rfl, ?_⟩; replace HO866 := rbE HO866 hb; replace BK860 := bbE BK860 hb; replace HB := bstE HB hb; (try clear hb); (try clear hb2); (try clear hk); (try clear hi)))
         replace HO866 := Aside0.mk (Kd.R_drew HO866.out)
         replace BK860 := Aside0.mk (blk_drew BK860.out)
         replace HB := Aside0.mk (below_drew1 HB.out)
         refine start_ (n := 17) (S := fun w' => w'.cell? ⟨gb860, 0, none⟩ = some (.bool a0_0) ∧ w'.cell? ⟨gb860, 1, none⟩ = some (.bool a0_1) ∧ w'.cell? ⟨gb860, 2, none⟩ = some (.bool a0_2) ∧ w'.cell? ⟨gb860, 3, none⟩ = some (.int .i64 a0_3) ∧ w'.cell? ⟨gb860, 4, none⟩ = some (.int .u16 a0_4) ∧ w'.cell? ⟨gb860, 5, none⟩ = some (.int .u32 a0_5) ∧ w'.cell? ⟨gb860, 6, none⟩ = some (.int .u32 a0_6) ∧ w'.cell? ⟨gb860, 7, none⟩ = some (.slice A0_7 l0_7.length c0_7) ∧ w'.cell? ⟨gb860, 8, none⟩ = some (.int .u16 a0_8) ∧ w'.cell? ⟨gb860, 9, none⟩ = some (.slice A0_9 l0_9.length c0_9) ∧ w'.cell? ⟨gb860, 10, none⟩ = some (.slice A0_10 l0_10.length c0_10) ∧ w'.cell? ⟨gb860, 11, none⟩ = some (.int .i64 a0_11) ∧ (convert 22 9 (v865)).run Try.prog w' = .ok (.string (strOfNums t864)) w') (ds := []) #[false, false, false, false, false, false, false, false, false, false, false, false, false, false, false, false, false] (by kernel_rfl) rfl rfl ⟨(blk_cell BK860.out 0).trans rfl, (blk_cell BK860.out 1).trans rfl, (blk_cell BK860.out 2).trans rfl, (blk_cell BK860.out 3).trans rfl, (blk_cell BK860.out 4).trans rfl, (blk_cell BK860.out 5).trans rfl, (blk_cell BK860.out 6).trans rfl, (blk_cell BK860.out 7).trans rfl, (blk_cell BK860.out 8).trans rfl, (blk_cell BK860.out 9).trans rfl, (blk_cell BK860.out 10).trans rfl, (blk_cell BK860.out 11).trans rfl, (own_string (P := Try.prog) Try.underlying22 Try.underlying5 Try.underlying9 (Kd.own_of_R HO866.out))⟩ (fun hHeld => ?_); refine with_tabW crossbarlaw06_PacketRight.tab7 crossbarlaw06_PacketRight.bits7 (fun HT_ HW_ => ?_)
         generalize w43.drew = w44 at HO866 BK860 HB hHeld ⊢
         refine pure_ (i := 0) (N := some 32) (v := ?_) (a' := ?_) #[true, false, false, false, false, false, false, false, false, false, false, false, false, false, false, false, false] rfl rfl (any_of HT_.out (by kernel_rfl)) (fun _ _ _ h => h) (Or.inl ⟨by rfl, ?_⟩) ?_ ?_
         rotate_left
         ·intro w'
          go_simp
          with_reducible rfl
         rotate_left
         ·simp only [Act.put, List.setIfInBounds_toArray, List.set_cons_zero, List.set_cons_succ, i64_w, i32_w]
          rfl
         refine pure_ (i := 1) (N := some 33) (v := ?_) (a' := ?_) #[true, true, false, false, false, false, false, false, false, false, false, false, false, false, false, false, false] rfl rfl (any_of HT_.out (by kernel_rfl)) (fun _ _ _ h => h) (Or.inl ⟨by rfl, ?_⟩) ?_ ?_
         rotate_left
         ·intro w'
          go_simp
          with_reducible rfl
         rotate_left
         ·simp only [Act.put, List.setIfInBounds_toArray, List.set_cons_zero, List.set_cons_succ, i64_w, i32_w]
          rfl
         refine pure_ (i := 2) (N := some 34) (v := ?_) (a' := ?_) #[true, true, true, false, false, false, false, false, false, false, false, false, false, false, false, false, false] rfl rfl (any_of HT_.out (by kernel_rfl)) (fun _ _ _ h => h) (Or.inl ⟨by rfl, ?_⟩) ?_ ?_
         rotate_left
         ·intro w'
          go_simp
          with_reducible rfl
         rotate_left
         ·simp only [Act.put, List.setIfInBounds_toArray, List.set_cons_zero, List.set_cons_succ, i64_w, i32_w]
          rfl
         refine pure_ (i := 3) (N := some 35) (v := ?_) (a' := ?_) #[true, true, true, true, false, false, false, false, false, false, false, false, false, false, false, false, false] rfl rfl (any_of HT_.out (by kernel_rfl)) (fun _ _ _ h => h) (Or.inl ⟨by rfl, ?_⟩) ?_ ?_
         rotate_left
         ·intro w'
          go_simp
          with_reducible rfl
         rotate_left
         ·simp only [Act.put, List.setIfInBounds_toArray, List.set_cons_zero, List.set_cons_succ, i64_w, i32_w]
          rfl
         refine take_ (i := 4) (N := some 36) (v := ?_) (a' := ?_) #[true, true, true, true, true, false, false, false, false, false, false, false, false, false, false, false, false] rfl rfl (take_ofW HT_.out HW_.out (by kernel_rfl)) (fun _ _ _ h => h) (Or.inl ⟨by rfl, ?_⟩) hHeld ?_ ?_
         rotate_left
         ·rintro w' ⟨s0, s1, s2, s3, s4, s5, s6, s7, s8, s9, s10, s11, s12⟩
          go_simp
          with_reducible rfl
         rotate_left
         ·simp only [Act.put, List.setIfInBounds_toArray, List.set_cons_zero, List.set_cons_succ, i64_w, i32_w]
          rfl
         refine take_ (i := 5) (N := some 37) (v := ?_) (a' := ?_) #[true, true, true, true, true, true, false, false, false, false, false, false, false, false, false, false, false] rfl rfl (take_ofW HT_.out HW_.out (by kernel_rfl)) (fun _ _ _ h => h) (Or.inl ⟨by rfl, ?_⟩) hHeld ?_ ?_
         rotate_left
         ·rintro w' ⟨s0, s1, s2, s3, s4, s5, s6, s7, s8, s9, s10, s11, s12⟩
          go_simp
          with_reducible rfl
         rotate_left
         ·simp only [Act.put, List.setIfInBounds_toArray, List.set_cons_zero, List.set_cons_succ, i64_w, i32_w]
          rfl
         refine one_ (i := 6) (N := some 38) #[true, true, true, true, true, true, true, false, false, false, false, false, false, false, false, false, false] rfl rfl (one_of HT_.out (by kernel_rfl)) (by decide) (fun K hK => ?_)
         refine goes_ Try.func25 (by kernel_rfl) rfl #[.agg #[.bool a0_0, .bool a0_1, .bool a0_2, .int .i64 a0_3, .int .u16 a0_4, .int .u32 a0_5, .int .u32 a0_6, .slice A0_7 l0_7.length c0_7, .int .u16 a0_8, .slice A0_9 l0_9.length c0_9, .slice A0_10 l0_10.length c0_10, .int .i64 a0_11]] (by rfl) rfl rfl (by (try simp only [List.map_toArray, List.map_cons, List.map_nil]); first | done | rfl | (simp only [List.length_drop, List.length_take]; rfl)) ?_
         with_reducible refine (crossbarref06_Write.calls kj5 a0_0 a0_1 a0_2 a0_3 a0_4 a0_5 a0_6 _ _ l0_7 a0_8 _ _ l0_9 _ _ l0_10 a0_11 t871 _ ?side1 ?side2 ?side3 ?side4 ?side5 ?side6 A38.out).mono ?_
         (case side1 => exact cbE HR0_7 HB)
         (case side2 => exact HC0_7.out)
         (case side3 => exact cbE HR0_9 HB)
         (case side4 => exact HC0_9.out)
         (case side5 => exact cbE HR0_10 HB)
         (case side6 => exact HC0_10.out)
         rintro e w45 ⟨v872, rfl, ho0, hb⟩
         refine ⟨_, rfl, ?_⟩
         have n0_ := Aside0.mk (Kd.R_elder' (pR HO866) (Kd.R_base ho0) hb)
         have HO873 := Aside0.mk (Kd.R_lower (Kd.R_new' ho0 (Kd.R_lt (pR HO866))) (below_size (pB HB)))
         replace BK860 := bbE BK860 hb
         replace HB := bstE HB hb
         clear HO866
         have HO866 := n0_
         clear n0_
         (try clear hb)
         (try clear hb2)
         (try clear hk)
         (try clear hi)
         (try clear ho0)
         obtain ⟨Ao47, co47, eo47⟩ := Kd.R_slice HO866.out
         (first | subst eo47 | (injection eo47 with f1_ f2_ f3_; have f4_ := f1_.symm; have f5_ := f3_.symm; clear f1_ f2_ f3_; subst f4_; subst f5_))
         refine hK.out _ _ ⟨(blk_cell BK860.out 0).trans rfl, (blk_cell BK860.out 1).trans rfl, (blk_cell BK860.out 2).trans rfl, (blk_cell BK860.out 3).trans rfl, (blk_cell BK860.out 4).trans rfl, (blk_cell BK860.out 5).trans rfl, (blk_cell BK860.out 6).trans rfl, (blk_cell BK860.out 7).trans rfl, (blk_cell BK860.out 8).trans rfl, (blk_cell BK860.out 9).trans rfl, (blk_cell BK860.out 10).trans rfl, (blk_cell BK860.out 11).trans rfl, (own_string (P := Try.prog) Try.underlying22 Try.underlying5 Try.underlying9 (Kd.own_of_R HO866.out))⟩ (fun hHeld => ?_)
         clear hK K
         refine norm_ (a' := ?_) ?_ ?_
         rotate_left
         ·show Act.put _ (some 38) _ = _
          simp only [Act.put, List.setIfInBounds_toArray, List.set_cons_zero, List.set_cons_succ, i64_w, i32_w]
          rfl
         refine one_ (i := 7) (N := some 39) #[true, true, true, true, true, true, true, true, false, false, false, false, false, false, false, false, false] rfl rfl (one_of HT_.out (by kernel_rfl)) (by decide) (fun K hK => ?_)
         have hcv46 := own_string (P := Try.prog) Try.underlying22 Try.underlying5 Try.underlying9 (Kd.own_of_R HO873.out)
         refine value_ (w1 := ?_) (v := ?_) (by rfl) rfl ?_ ?_
         rotate_left 2
         ·go_simp
          constructor
          ·rfl
          rfl
         clear hcv46
         refine hK.out _ _ ⟨(blk_cell BK860.out 0).trans rfl, (blk_cell BK860.out 1).trans rfl, (blk_cell BK860.out 2).trans rfl, (blk_cell BK860.out 3).trans rfl, (blk_cell BK860.out 4).trans rfl, (blk_cell BK860.out 5).trans rfl, (blk_cell BK860.out 6).trans rfl, (blk_cell BK860.out 7).trans rfl, (blk_cell BK860.out 8).trans rfl, (blk_cell BK860.out 9).trans rfl, (blk_cell BK860.out 10).trans rfl, (blk_cell BK860.out 11).trans rfl, (own_string (P := Try.prog) Try.underlying22 Try.underlying5 Try.underlying9 (Kd.own_of_R HO866.out))⟩ (fun hHeld => ?_)
         clear hK K
         refine norm_ (a' := ?_) ?_ ?_
         rotate_left
         ·show Act.put _ (some 39) _ = _
          simp only [Act.put, List.setIfInBounds_toArray, List.set_cons_zero, List.set_cons_succ, i64_w, i32_w]
          rfl
         refine pure_ (i := 8) (N := some 40) (v := ?_) (a' := ?_) #[true, true, true, true, true, true, true, true, true, false, false, false, false, false, false, false, false] rfl rfl (any_of HT_.out (by kernel_rfl)) (fun _ _ _ h => h) (Or.inl ⟨by rfl, ?_⟩) ?_ ?_
         rotate_left
         ·intro w'
          go_simp
          with_reducible rfl
         rotate_left
         ·simp only [Act.put, List.setIfInBounds_toArray, List.set_cons_zero, List.set_cons_succ, i64_w, i32_w]
          rfl
         refine pure_ (i := 9) (N := some 41) (v := ?_) (a' := ?_) #[true, true, true, true, true, true, true, true, true, true, false, false, false, false, false, false, false] rfl rfl (any_of HT_.out (by kernel_rfl)) (fun _ _ _ h => h) (Or.inl ⟨by rfl, ?_⟩) ?_ ?_
         rotate_left
         ·intro w'
          go_simp
          with_reducible rfl
         rotate_left
         ·simp only [Act.put, List.setIfInBounds_toArray, List.set_cons_zero, List.set_cons_succ, i64_w, i32_w]
          rfl
         refine pure_ (i := 10) (N := some 42) (v := ?_) (a' := ?_) #[true, true, true, true, true, true, true, true, true, true, true, false, false, false, false, false, false] rfl rfl (any_of HT_.out (by kernel_rfl)) (fun _ _ _ h => h) (Or.inl ⟨by rfl, ?_⟩) ?_ ?_
         rotate_left
         ·intro w'
          go_simp
          with_reducible rfl
         rotate_left
         ·simp only [Act.put, List.setIfInBounds_toArray, List.set_cons_zero, List.set_cons_succ, i64_w, i32_w]
          rfl
         refine pure_ (i := 13) (N := some 45) (v := ?_) (a' := ?_) #[true, true, true, true, true, true, true, true, true, true, true, false, false, true, false, false, false] rfl rfl (any_of HT_.out (by kernel_rfl)) (fun _ _ _ h => h) (Or.inl ⟨by rfl, ?_⟩) ?_ ?_
         rotate_left
         ·intro w'
          go_simp
          with_reducible rfl
         rotate_left
         ·simp only [Act.put, List.setIfInBounds_toArray, List.set_cons_zero, List.set_cons_succ, i64_w, i32_w]
          rfl
         refine pure_ (i := 14) (N := some 46) (v := ?_) (a' := ?_) #[true, true, true, true, true, true, true, true, true, true, true, false, false, true, true, false, false] rfl rfl (any_of HT_.out (by kernel_rfl)) (fun _ _ _ h => h) (Or.inl ⟨by rfl, ?_⟩) ?_ ?_
         rotate_left
         ·intro w'
          go_simp
          with_reducible rfl
         rotate_left
         ·simp only [Act.put, List.setIfInBounds_toArray, List.set_cons_zero, List.set_cons_succ, i64_w, i32_w]
          rfl
         refine take_ (i := 11) (N := some 43) (v := ?_) (a' := ?_) #[true, true, true, true, true, true, true, true, true, true, true, true, false, true, true, false, false] rfl rfl (take_ofW HT_.out HW_.out (by kernel_rfl)) (fun _ _ _ h => h) (Or.inl ⟨by rfl, ?_⟩) hHeld ?_ ?_
         rotate_left
         ·rintro w' ⟨s0, s1, s2, s3, s4, s5, s6, s7, s8, s9, s10, s11, s12⟩
          go_simp
          with_reducible rfl
         rotate_left
         ·simp only [Act.put, List.setIfInBounds_toArray, List.set_cons_zero, List.set_cons_succ, i64_w, i32_w]
          rfl
         refine one_ (i := 12) (N := some 44) #[true, true, true, true, true, true, true, true, true, true, true, true, true, true, true, false, false] rfl rfl (one_of HT_.out (by kernel_rfl)) (by decide) (fun K hK => ?_)
         refine goes_ Try.func23 (by kernel_rfl) rfl #[.agg #[.bool a0_0, .bool a0_1, .bool a0_2, .int .i64 a0_3, .int .u16 a0_4, .int .u32 a0_5, .int .u32 a0_6, .slice A0_7 l0_7.length c0_7, .int .u16 a0_8, .slice A0_9 l0_9.length c0_9, .slice A0_10 l0_10.length c0_10, .int .i64 a0_11]] (by rfl) rfl rfl (by (try simp only [List.map_toArray, List.map_cons, List.map_nil]); first | done | rfl | (simp only [List.length_drop, List.length_take]; rfl)) ?_
         with_reducible refine (packet_Size.calls kj5 a0_0 a0_1 a0_2 a0_3 a0_4 a0_5 a0_6 _ _ l0_7 a0_8 _ _ l0_9 _ _ l0_10 a0_11 t874 _ ?side1 ?side2 ?side3 ?side4 ?side5 ?side6 A40.out).mono ?_
         (case side1 => exact cbE HR0_7 HB)
         (case side2 => exact HC0_7.out)
         (case side3 => exact cbE HR0_9 HB)
         (case side4 => exact HC0_9.out)
         (case side5 => exact cbE HR0_10 HB)
         (case side6 => exact HC0_10.out)
         rintro e w49 ⟨rfl, hb⟩
         refine ⟨_, rfl, ?_⟩
         replace HO866 := rbE HO866 hb
         replace HO873 := rbE HO873 hb
         replace BK860 := bbE BK860 hb
         replace HB := bstE HB hb
         (try clear hb)
         (try clear hb2)
         (try clear hk)
         (try clear hi)
         refine hK.out _ _ ⟨(blk_cell BK860.out 0).trans rfl, (blk_cell BK860.out 1).trans rfl, (blk_cell BK860.out 2).trans rfl, (blk_cell BK860.out 3).trans rfl, (blk_cell BK860.out 4).trans rfl, (blk_cell BK860.out 5).trans rfl, (blk_cell BK860.out 6).trans rfl, (blk_cell BK860.out 7).trans rfl, (blk_cell BK860.out 8).trans rfl, (blk_cell BK860.out 9).trans rfl, (blk_cell BK860.out 10).trans rfl, (blk_cell BK860.out 11).trans rfl, (own_string (P := Try.prog) Try.underlying22 Try.underlying5 Try.underlying9 (Kd.own_of_R HO866.out))⟩ (fun hHeld => ?_)
         clear hK K
         refine norm_ (a' := ?_) ?_ ?_
         rotate_left
         ·show Act.put _ (some 44) _ = _
          simp only [Act.put, List.setIfInBounds_toArray, List.set_cons_zero, List.set_cons_succ, i64_w, i32_w]
          rfl
         refine pure_ (i := 15) (N := some 47) (v := ?_) (a' := ?_) #[true, true, true, true, true, true, true, true, true, true, true, true, true, true, true, true, false] rfl rfl (any_of HT_.out (by kernel_rfl)) (fun _ _ _ h => h) (Or.inl ⟨by rfl, ?_⟩) ?_ ?_
         rotate_left
         ·intro w'
          go_simp
          with_reducible rfl
         rotate_left
         ·simp only [Act.put, List.setIfInBounds_toArray, List.set_cons_zero, List.set_cons_succ, i64_w, i32_w]
          rfl
         refine pure_ (i := 16) (N := some 48) (v := ?_) (a' := ?_) #[true, true, true, true, true, true, true, true, true, true, true, true, true, true, true, true, true] rfl rfl (any_of HT_.out (by kernel_rfl)) (fun _ _ _ h => h) (Or.inl ⟨by rfl, ?_⟩) ?_ ?_
         rotate_left
         ·intro w'
          go_simp
          with_reducible rfl
         rotate_left
         ·simp only [Act.put, List.setIfInBounds_toArray, List.set_cons_zero, List.set_cons_succ, i64_w, i32_w]
          rfl
         refine done_ (done_of HT_.out (by kernel_rfl)) ?_
         try go_wp2
         go_meet
         case rel => exact ⟨_, H', ⟨by have := HJ5.out; first | omega | exact Nat.le_refl _⟩, ⟨by (with_reducible repeat (first | refine blk_drewN ?_ _ | refine blk_drew ?_ | refine blk_alloc ?_ _)); exact BK860.out⟩, ⟨by repeat (first | (with_reducible first | exact HB.out | apply below_alloc | apply pw_below_drewN | apply below_drew1 | refine below_set ?_ GE860.out) | exact HB.out)⟩⟩
        rw [if_neg c41] at H
        exact absurd H (by simp)
       rw [if_neg c39] at H
       have c39b0 : ((strOfNums t864).toList == (strOfNums t871).toList) = false := beq_eq_false_iff_ne.mpr c39
       have c39b1 : ((strOfNums t864).toList != (strOfNums t871).toList) = true := bne_iff_ne.mpr c39
       exact absurd H (by simp)
      rw [if_neg c37] at H
      have c37b0 : (t867 == 0) = false := beq_eq_false_iff_ne.mpr c37
      have c37b1 : (t867 != 0) = true := bne_iff_ne.mpr c37
      exact absurd H (by simp)
     replace c23 := Bool.eq_false_iff.mpr c23
     subst c23
     have H1 : (if t867 = 1 then (if (t864.length : Int) = 0 then ((packet_Size.f kj5 a0_0 a0_1 a0_2 a0_3 a0_4 a0_5 a0_6 l0_7 a0_8 l0_9 l0_10 a0_11).bind fun t875 => (if t875 = 0 then (crossbarlaw06_PacketRight.j1 kj5 l2 false a0_0 a0_1 a0_2 a0_3 a0_4 a0_5 a0_6 l0_7 a0_8 l0_9 l0_10 a0_11) else (none))) else (none)) else (none)) = some r := by rw [if_neg (show ¬ (false = true) by decide)] at H; exact H
     clear H
     have H := H1
     clear H1
     by_cases c50 : t867 = 1
     ·rw [if_pos c50] at H
      have c50b0 : (t867 == 1) = true := beq_iff_eq.mpr c50
      have c50b1 : (t867 != 1) = false := bne_eq_false_iff_eq.mpr c50
      clear c50
      by_cases c51 : (t864.length : Int) = 0
      ·rw [if_pos c51] at H
       have c51b0 : ((t864.length : Int) == 0) = true := beq_iff_eq.mpr c51
       have c51b1 : ((t864.length : Int) != 0) = false := bne_eq_false_iff_eq.mpr c51
       clear c51
       replace H := Option.bind_eq_some_iff.mp H
       obtain ⟨t875, A520, H⟩ := H
       replace H : (if t875 = 0 then (crossbarlaw06_PacketRight.j1 kj5 l2 false a0_0 a0_1 a0_2 a0_3 a0_4 a0_5 a0_6 l0_7 a0_8 l0_9 l0_10 a0_11) else (none)) = some r := H
       have A52 := Aside0.mk A520
       clear A520
       by_cases c53 : t875 = 0
       ·rw [if_pos c53] at H
        have c53b0 : (t875 == 0) = true := beq_iff_eq.mpr c53
        have c53b1 : (t875 != 0) = false := bne_eq_false_iff_eq.mpr c53
        clear c53
        have H' := Aside0.mk H
        clear H
        obtain ⟨Ao54, co54, eo54⟩ := Kd.R_slice HO866.out
        subst eo54
        obtain ⟨Z55_0, Z55_1, Z55_2, Z55_3, Z55_4, Z55_5, Z55_6, Z55_7, Z55_8, Z55_9, Z55_10, Z55_11, Y55_0, Y55_1, Y55_2, Y55_3, Y55_4, Y55_5, Y55_6, Y55_7, Y55_8, Y55_9, Y55_10, Y55_11⟩ := bc12 BK860.out
        go_wp2_with (first | (go_at_call 23; (with_reducible refine (packet_Size.calls kj5 a0_0 a0_1 a0_2 a0_3 a0_4 a0_5 a0_6 _ _ l0_7 a0_8 _ _ l0_9 _ _ l0_10 a0_11 t875 _ ?side1 ?side2 ?side3 ?side4 ?side5 ?side6 A52.out).mono ?_); (case side1 => exact cbE HR0_7 HB); (case side2 => exact HC0_7.out); (case side3 => exact cbE HR0_9 HB); (case side4 => exact HC0_9.out); (case side5 => exact cbE HR0_10 HB); (case side6 => exact HC0_10.out); rintro e w56 ⟨rfl, hb⟩; replace HO866 := rbE HO866 hb; replace BK860 := bbE BK860 hb; replace HB := bstE HB hb; (try clear hb); (try clear hb2); (try clear hk); (try clear hi)))
        go_meet
        case rel => exact ⟨_, H', ⟨by have := HJ5.out; first | omega | exact Nat.le_refl _⟩, ⟨by (with_reducible repeat (first | refine blk_drewN ?_ _ | refine blk_drew ?_ | refine blk_alloc ?_ _)); exact BK860.out⟩, ⟨by repeat (first | (with_reducible first | exact HB.out | apply below_alloc | apply pw_below_drewN | apply below_drew1 | refine below_set ?_ GE860.out) | exact HB.out)⟩⟩
       rw [if_neg c53] at H
       exact absurd H (by simp)
      rw [if_neg c51] at H
      exact absurd H (by simp)
     rw [if_neg c50] at H
     exact absurd H (by simp)
    case rest =>
     clear HC18
     try clear c2
     try clear p2
     try clear c3
     try clear c4
     try clear hcv4
     try clear c5
     try clear c23
     try clear c24
     try clear c25
     try clear c25b0
     try clear c26
     try clear c26b0
     try clear c26b1
     try clear c27
     try clear c27b0
     try clear c27b1
     try clear c27b2
     try clear c30
     try clear c30b0
     try clear c30b1
     try clear c37
     try clear c37b0
     try clear c37b1
     try clear c39
     try clear c39b0
     try clear c39b1
     try clear c41
     try clear c41b0
     try clear c41b1
     try clear hcv46
     try clear c50
     try clear c50b0
     try clear c50b1
     try clear c51
     try clear c51b0
     try clear c51b1
     try clear c53
     try clear c53b0
     try clear c53b1
     try clear Z31_0 Z31_1 Z31_10 Z31_11 Z31_2 Z31_3 Z31_4 Z31_5 Z31_6 Z31_7 Z31_8 Z31_9
     try clear Z42_0 Z42_1 Z42_10 Z42_11 Z42_2 Z42_3 Z42_4 Z42_5 Z42_6 Z42_7 Z42_8 Z42_9
     try clear Z55_0 Z55_1 Z55_10 Z55_11 Z55_2 Z55_3 Z55_4 Z55_5 Z55_6 Z55_7 Z55_8 Z55_9
     try clear Y31_0 Y31_1 Y31_10 Y31_11 Y31_2 Y31_3 Y31_4 Y31_5 Y31_6 Y31_7 Y31_8 Y31_9
     try clear Y42_0 Y42_1 Y42_10 Y42_11 Y42_2 Y42_3 Y42_4 Y42_5 Y42_6 Y42_7 Y42_8 Y42_9
     try clear Y55_0 Y55_1 Y55_10 Y55_11 Y55_2 Y55_3 Y55_4 Y55_5 Y55_6 Y55_7 Y55_8 Y55_9
     obtain ⟨kq, HA, HJ17, BK860, HB⟩ := hcut
     cases kq with
     | zero => exact absurd HA.out (by simp [crossbarlaw06_PacketRight.j1])
     | succ kj17 =>
      have H := HA.out
      clear HA
      simp only [crossbarlaw06_PacketRight.j1] at H
      replace H := Option.bind_eq_some_iff.mp H
      obtain ⟨⟨t876, t877, t878, t879, t880, t881, t882, t883, t886, t887, t890, t893, t894⟩, A570, H⟩ := H
      replace H : ((crossbarref06_Read.f kj17 l2).bind fun bt896 => ((packet_Right.f kj17 a0_0 a0_1 a0_2 a0_3 a0_4 a0_5 a0_6 l0_7 a0_8 l0_9 l0_10 a0_11).bind fun t916 => (if (t916 == t863) = true then (if t894 = bt896.2.2.2.2.2.2.2.2.2.2.2.2 then ((crossbarref06_Same.f kj17 t876 t877 t878 t879 t880 t881 t882 t883 t886 t887 t890 t893 bt896.1 bt896.2.1 bt896.2.2.1 bt896.2.2.2.1 bt896.2.2.2.2.1 bt896.2.2.2.2.2.1 bt896.2.2.2.2.2.2.1 bt896.2.2.2.2.2.2.2.1 bt896.2.2.2.2.2.2.2.2.1 bt896.2.2.2.2.2.2.2.2.2.1 bt896.2.2.2.2.2.2.2.2.2.2.1 bt896.2.2.2.2.2.2.2.2.2.2.2.1).bind fun t917 => (if t917 = true then ((packet_Canon.f kj17 l2).bind fun t918 => ((crossbarref06_Canon.f kj17 l2).bind fun t919 => (some (t918 == t919)))) else (none))) else (none)) else (none)))) = some r := H
      have A57 := Aside0.mk A570
      clear A570
      replace H := Option.bind_eq_some_iff.mp H
      obtain ⟨⟨t896, t897, t898, t899, t900, t901, t902, t903, t906, t907, t910, t913, t914⟩, A580, H⟩ := H
      replace H : ((packet_Right.f kj17 a0_0 a0_1 a0_2 a0_3 a0_4 a0_5 a0_6 l0_7 a0_8 l0_9 l0_10 a0_11).bind fun t916 => (if (t916 == t863) = true then (if t894 = t914 then ((crossbarref06_Same.f kj17 t876 t877 t878 t879 t880 t881 t882 t883 t886 t887 t890 t893 t896 t897 t898 t899 t900 t901 t902 t903 t906 t907 t910 t913).bind fun t917 => (if t917 = true then ((packet_Canon.f kj17 l2).bind fun t918 => ((crossbarref06_Canon.f kj17 l2).bind fun t919 => (some (t918 == t919)))) else (none))) else (none)) else (none))) = some r := H
      have A58 := Aside0.mk A580
      clear A580
      replace H := Option.bind_eq_some_iff.mp H
      obtain ⟨t916, A590, H⟩ := H
      replace H : (if (t916 == t863) = true then (if t894 = t914 then ((crossbarref06_Same.f kj17 t876 t877 t878 t879 t880 t881 t882 t883 t886 t887 t890 t893 t896 t897 t898 t899 t900 t901 t902 t903 t906 t907 t910 t913).bind fun t917 => (if t917 = true then ((packet_Canon.f kj17 l2).bind fun t918 => ((crossbarref06_Canon.f kj17 l2).bind fun t919 => (some (t918 == t919)))) else (none))) else (none)) else (none)) = some r := H
      have A59 := Aside0.mk A590
      clear A590
      by_cases c60 : (t916 == t863) = true
      ·rw [if_pos c60] at H
       have c60b0 : (t916 == t863) = true := c60
       (try (have c60b1 : decide (t916 = t863) = true := by simpa using c60))
       (try (have c60b2 : (t916 == t863) = true := by simpa using c60))
       clear c60
       by_cases c61 : t894 = t914
       ·rw [if_pos c61] at H
        have c61b0 : (t894 == t914) = true := beq_iff_eq.mpr c61
        have c61b1 : (t894 != t914) = false := bne_eq_false_iff_eq.mpr c61
        clear c61
        replace H := Option.bind_eq_some_iff.mp H
        obtain ⟨t917, A620, H⟩ := H
        replace H : (if t917 = true then ((packet_Canon.f kj17 l2).bind fun t918 => ((crossbarref06_Canon.f kj17 l2).bind fun t919 => (some (t918 == t919)))) else (none)) = some r := H
        have A62 := Aside0.mk A620
        clear A620
        by_cases c63 : t917 = true
        ·subst c63
         have H1 : ((packet_Canon.f kj17 l2).bind fun t918 => ((crossbarref06_Canon.f kj17 l2).bind fun t919 => (some (t918 == t919)))) = some r := by rw [if_pos rfl] at H; exact H
         clear H
         have H := H1
         clear H1
         replace H := Option.bind_eq_some_iff.mp H
         obtain ⟨t918, A640, H⟩ := H
         replace H : ((crossbarref06_Canon.f kj17 l2).bind fun t919 => (some (t918 == t919))) = some r := H
         have A64 := Aside0.mk A640
         clear A640
         replace H := Option.bind_eq_some_iff.mp H
         obtain ⟨t919, A650, H⟩ := H
         replace H : (some (t918 == t919)) = some r := H
         have A65 := Aside0.mk A650
         clear A650
         obtain rfl := Option.some.inj H
         go_wp2_with (first | ((with_reducible refine gate_callee (f := 17) rfl ?_); refine goesL_ (some 85) rfl rfl Try.func17 (by kernel_rfl) rfl #[.slice A2 l2.length c2] rfl (by (try simp only [List.map_toArray, List.map_cons, List.map_nil]); first | done | rfl | (simp only [List.length_drop, List.length_take]; rfl)) ?_; (with_reducible refine (packet_Read.calls kj17 _ _ l2 t876 t877 t878 t879 t880 t881 t882 t883 t886 t887 t890 t893 t894 _ ?side1 ?side2 A57.out).mono ?_); (case side1 => exact cbE HR2 HB); (case side2 => exact HC2.out); rintro e w66 ⟨v884, v888, v891, rfl, ho0, ho1, ho2, hb⟩; refine ⟨_, rfl, ?_⟩; have HO885 := Aside0.mk (Kd.R_lower ho0 (below_size (pB HB))); have HO889 := Aside0.mk (Kd.R_lower ho1 (below_size (pB HB))); have HO892 := Aside0.mk (Kd.R_lower ho2 (below_size (pB HB))); replace BK860 := bbE BK860 hb; replace HB := bstE HB hb; (try clear hb); (try clear hb2); (try clear hk); (try clear hi); (try clear ho0); (try clear ho1); (try clear ho2)) | ((with_reducible refine gate_dst (N := 10) rfl ?_); (try (refine gate_guard (by rfl) ?_; dsimp only)); refine box_event ?hg (N := 10) ?hd (cs := #[.bool false, .bool false, .bool false, .int .i64 0, .int .u16 0, .int .u32 0, .int .u32 0, .slice none 0 0, .int .u16 0, .slice none 0 0, .slice none 0 0, .int .i64 0]) (t := 45) ?hr ?_; (case hd => rfl); (case hg => rfl); (case hr => first | (go_simp; done) | (go_simp; rfl)); intro gb895 hg w67 hbox hb; replace HO885 := rbE HO885 hb; replace HO889 := rbE HO889 hb; replace HO892 := rbE HO892 hb; have n3_ := bbE BK860 hb; have n4_ := bstE HB hb; have BK895 := Aside0.mk (hbox); have GW895 := geE hg HB; have GE895 := geE hg HB; have NB860_895 := nlE hg BK860; have NB895_860 := ngE hg BK860; clear BK860; clear HB; have BK860 := n3_; have HB := n4_; clear n3_ n4_; clear hb hbox hg; have hnb68 := NB895_860.out; have hnc68 := NB860_895.out; obtain ⟨Z69_0, Z69_1, Z69_2, Z69_3, Z69_4, Z69_5, Z69_6, Z69_7, Z69_8, Z69_9, Z69_10, Z69_11, Y69_0, Y69_1, Y69_2, Y69_3, Y69_4, Y69_5, Y69_6, Y69_7, Y69_8, Y69_9, Y69_10, Y69_11⟩ := bc12 BK895.out; obtain ⟨Ao70, co70, eo70⟩ := Kd.R_slice HO885.out; subst eo70; obtain ⟨Ao71, co71, eo71⟩ := Kd.R_slice HO889.out; subst eo71; obtain ⟨Ao72, co72, eo72⟩ := Kd.R_slice HO892.out; subst eo72) | ((with_reducible refine gate_store (t := 45) (p := 10) rfl ?_); refine store_event (t := 45) (p := 10) (v := ?vo_w73) (w1 := ((((((((((((w67.setCell ⟨gb895, 0, none⟩ (.bool t876)).setCell ⟨gb895, 1, none⟩ (.bool t877)).setCell ⟨gb895, 2, none⟩ (.bool t878)).setCell ⟨gb895, 3, none⟩ (.int .i64 t879)).setCell ⟨gb895, 4, none⟩ (.int .u16 t880)).setCell ⟨gb895, 5, none⟩ (.int .u32 t881)).setCell ⟨gb895, 6, none⟩ (.int .u32 t882)).setCell ⟨gb895, 7, none⟩ (.slice Ao70 t883.length co70)).setCell ⟨gb895, 8, none⟩ (.int .u16 t886)).setCell ⟨gb895, 9, none⟩ (.slice Ao71 t887.length co71)).setCell ⟨gb895, 10, none⟩ (.slice Ao72 t890.length co72)).setCell ⟨gb895, 11, none⟩ (.int .i64 t893))) ?hg ?ho ?hn ?hr ?_; (case ho => rfl); (case hg => rfl); (case hn => rfl); (case hr => first | (go_simp; done) | (go_simp; rfl)); intro w73 hw; replace HO885 := rfE hw HO885 BK895; replace HO889 := rfE hw HO889 BK895; replace HO892 := rfE hw HO892 BK895; replace BK860 := bfE hw BK860 NB860_895; replace BK895 : Aside0 (w73.heap[gb895]? = some (.cells #[.bool t876, .bool t877, .bool t878, .int .i64 t879, .int .u16 t880, .int .u32 t881, .int .u32 t882, .slice Ao70 t883.length co70, .int .u16 t886, .slice Ao71 t887.length co71, .slice Ao72 t890.length co72, .int .i64 t893] 45 (0, 0))) := ⟨by rw [hw]; apply puts12; exact BK895.out⟩; replace HB := bsE hw HB GE895; clear hw) | ((with_reducible refine gate_callee (f := 26) rfl ?_); refine goesL_ (some 90) rfl rfl Try.func26 (by kernel_rfl) rfl #[.slice A2 l2.length c2] rfl (by (try simp only [List.map_toArray, List.map_cons, List.map_nil]); first | done | rfl | (simp only [List.length_drop, List.length_take]; rfl)) ?_; (with_reducible refine (crossbarref06_Read.calls kj17 _ _ l2 t896 t897 t898 t899 t900 t901 t902 t903 t906 t907 t910 t913 t914 _ ?side1 ?side2 A58.out).mono ?_); (case side1 => exact cbE HR2 HB); (case side2 => exact HC2.out); rintro e w74 ⟨v904, v908, v911, rfl, ho0, ho1, ho2, hb⟩; refine ⟨_, rfl, ?_⟩; have n0_ := Aside0.mk (Kd.R_elder' (pR HO885) (Kd.R_base ho0) hb); have n1_ := Aside0.mk (Kd.R_mono (Kd.R_told (Kd.R_told (Kd.R_old (pR HO889) hb) (Kd.R_base ho1)) (Kd.R_base ho2)) (fun _ h_ => h_.1)); have n2_ := Aside0.mk (Kd.R_mono (Kd.R_told (Kd.R_told (Kd.R_old (pR HO892) hb) (Kd.R_base ho1)) (Kd.R_base ho2)) (fun _ h_ => h_.1)); have HO905 := Aside0.mk (Kd.R_lower (Kd.R_new' ho0 (Kd.R_lt (pR HO885))) (below_size (pB HB))); have HO909 := Aside0.mk (Kd.R_lower (Kd.R_new' (Kd.R_new' ho1 (Kd.R_lt (pR HO889))) (Kd.R_lt (pR HO892))) (below_size (pB HB))); have HO912 := Aside0.mk (Kd.R_lower (Kd.R_new' (Kd.R_new' ho2 (Kd.R_lt (pR HO889))) (Kd.R_lt (pR HO892))) (below_size (pB HB))); replace BK860 := bbE BK860 hb; replace BK895 := bbE BK895 hb; replace HB := bstE HB hb; clear HO885; clear HO889; clear HO892; have HO885 := n0_; have HO889 := n1_; have HO892 := n2_; clear n0_ n1_ n2_; (try clear hb); (try clear hb2); (try clear hk); (try clear hi); (try clear ho0); (try clear ho1); (try clear ho2)) | ((with_reducible refine gate_dst (N := 12) rfl ?_); (try (refine gate_guard (by rfl) ?_; dsimp only)); refine box_event ?hg (N := 12) ?hd (cs := #[.bool false, .bool false, .bool false, .int .i64 0, .int .u16 0, .int .u32 0, .int .u32 0, .slice none 0 0, .int .u16 0, .slice none 0 0, .slice none 0 0, .int .i64 0]) (t := 45) ?hr ?_; (case hd => rfl); (case hg => rfl); (case hr => first | (go_simp; done) | (go_simp; rfl)); intro gb915 hg w75 hbox hb; replace HO885 := rbE HO885 hb; replace HO889 := rbE HO889 hb; replace HO892 := rbE HO892 hb; replace HO905 := rbE HO905 hb; replace HO909 := rbE HO909 hb; replace HO912 := rbE HO912 hb; have n6_ := bbE BK860 hb; have n7_ := bbE BK895 hb; have n8_ := bstE HB hb; have BK915 := Aside0.mk (hbox); have GW915 := geE hg HB; have GE915 := geE hg HB; have NB860_915 := nlE hg BK860; have NB915_860 := ngE hg BK860; have NB895_915 := nlE hg BK895; have NB915_895 := ngE hg BK895; clear BK860; clear BK895; clear HB; have BK860 := n6_; have BK895 := n7_; have HB := n8_; clear n6_ n7_ n8_; clear hb hbox hg; have hnb76 := NB915_860.out; have hnc76 := NB860_915.out; have hnb77 := NB915_895.out; have hnc77 := NB895_915.out; obtain ⟨Z78_0, Z78_1, Z78_2, Z78_3, Z78_4, Z78_5, Z78_6, Z78_7, Z78_8, Z78_9, Z78_10, Z78_11, Y78_0, Y78_1, Y78_2, Y78_3, Y78_4, Y78_5, Y78_6, Y78_7, Y78_8, Y78_9, Y78_10, Y78_11⟩ := bc12 BK915.out; obtain ⟨Ao79, co79, eo79⟩ := Kd.R_slice HO905.out; subst eo79; obtain ⟨Ao80, co80, eo80⟩ := Kd.R_slice HO909.out; subst eo80; obtain ⟨Ao81, co81, eo81⟩ := Kd.R_slice HO912.out; subst eo81) | ((with_reducible refine gate_store (t := 45) (p := 12) rfl ?_); refine store_event (t := 45) (p := 12) (v := ?vo_w82) (w1 := ((((((((((((w75.setCell ⟨gb915, 0, none⟩ (.bool t896)).setCell ⟨gb915, 1, none⟩ (.bool t897)).setCell ⟨gb915, 2, none⟩ (.bool t898)).setCell ⟨gb915, 3, none⟩ (.int .i64 t899)).setCell ⟨gb915, 4, none⟩ (.int .u16 t900)).setCell ⟨gb915, 5, none⟩ (.int .u32 t901)).setCell ⟨gb915, 6, none⟩ (.int .u32 t902)).setCell ⟨gb915, 7, none⟩ (.slice Ao79 t903.length co79)).setCell ⟨gb915, 8, none⟩ (.int .u16 t906)).setCell ⟨gb915, 9, none⟩ (.slice Ao80 t907.length co80)).setCell ⟨gb915, 10, none⟩ (.slice Ao81 t910.length co81)).setCell ⟨gb915, 11, none⟩ (.int .i64 t913))) ?hg ?ho ?hn ?hr ?_; (case ho => rfl); (case hg => rfl); (case hn => rfl); (case hr => first | (go_simp; done) | (go_simp; rfl)); intro w82 hw; replace HO885 : Aside0 (Kd.R (Kd.int .u32) 40 w82 w.heap.size (fun k_ => some k_ ≠ (.slice Ao79 t903.length co79 : Value).ownBlock) (.slice Ao70 t883.length co70) t883) := ⟨Kd.R_mono (rfF hw HO885 BK915) (fun _ hk => hk.1.2)⟩; replace HO889 : Aside0 (Kd.R (Kd.int .u8) 5 w82 w.heap.size (fun k_ => some k_ ≠ (.slice Ao72 t890.length co72 : Value).ownBlock ∧ some k_ ≠ (.slice Ao80 t907.length co80 : Value).ownBlock ∧ some k_ ≠ (.slice Ao81 t910.length co81 : Value).ownBlock) (.slice Ao71 t887.length co71) t887) := ⟨Kd.R_mono (rfF hw HO889 BK915) (fun _ hk => ⟨hk.1.1.1, ⟨hk.1.1.2, hk.1.2⟩⟩)⟩; replace HO892 : Aside0 (Kd.R (Kd.int .u8) 5 w82 w.heap.size (fun k_ => some k_ ≠ (.slice Ao71 t887.length co71 : Value).ownBlock ∧ some k_ ≠ (.slice Ao80 t907.length co80 : Value).ownBlock ∧ some k_ ≠ (.slice Ao81 t910.length co81 : Value).ownBlock) (.slice Ao72 t890.length co72) t890) := ⟨Kd.R_mono (rfF hw HO892 BK915) (fun _ hk => ⟨hk.1.1.1, ⟨hk.1.1.2, hk.1.2⟩⟩)⟩; replace HO905 : Aside0 (Kd.R (Kd.int .u32) 40 w82 w.heap.size (fun k_ => some k_ ≠ (.slice Ao70 t883.length co70 : Value).ownBlock) (.slice Ao79 t903.length co79) t903) := ⟨Kd.R_mono (rfF hw HO905 BK915) (fun _ hk => hk.1.2)⟩; replace HO909 : Aside0 (Kd.R (Kd.int .u8) 5 w82 w.heap.size (fun k_ => some k_ ≠ (.slice Ao71 t887.length co71 : Value).ownBlock ∧ some k_ ≠ (.slice Ao72 t890.length co72 : Value).ownBlock ∧ some k_ ≠ (.slice Ao81 t910.length co81 : Value).ownBlock) (.slice Ao80 t907.length co80) t907) := ⟨Kd.R_mono (rfF hw HO909 BK915) (fun _ hk => ⟨hk.1.1.2, ⟨hk.1.2, hk.1.1.1⟩⟩)⟩; replace HO912 : Aside0 (Kd.R (Kd.int .u8) 5 w82 w.heap.size (fun k_ => some k_ ≠ (.slice Ao71 t887.length co71 : Value).ownBlock ∧ some k_ ≠ (.slice Ao72 t890.length co72 : Value).ownBlock ∧ some k_ ≠ (.slice Ao80 t907.length co80 : Value).ownBlock) (.slice Ao81 t910.length co81) t910) := ⟨Kd.R_mono (rfF hw HO912 BK915) (fun _ hk => ⟨hk.1.1.2, ⟨hk.1.2, hk.1.1.1⟩⟩)⟩; replace BK860 := bfE hw BK860 NB860_915; replace BK895 := bfE hw BK895 NB895_915; replace BK915 : Aside0 (w82.heap[gb915]? = some (.cells #[.bool t896, .bool t897, .bool t898, .int .i64 t899, .int .u16 t900, .int .u32 t901, .int .u32 t902, .slice Ao79 t903.length co79, .int .u16 t906, .slice Ao80 t907.length co80, .slice Ao81 t910.length co81, .int .i64 t913] 45 (0, 0))) := ⟨by rw [hw]; apply puts12; exact BK915.out⟩; replace HB := bsE hw HB GE915; clear hw; obtain ⟨Z83_0, Z83_1, Z83_2, Z83_3, Z83_4, Z83_5, Z83_6, Z83_7, Z83_8, Z83_9, Z83_10, Z83_11, Y83_0, Y83_1, Y83_2, Y83_3, Y83_4, Y83_5, Y83_6, Y83_7, Y83_8, Y83_9, Y83_10, Y83_11⟩ := bc12 BK860.out) | ((with_reducible refine gate_callee (f := 27) rfl ?_); refine goesL_ (some 94) rfl rfl Try.func27 (by kernel_rfl) rfl #[.agg #[.bool a0_0, .bool a0_1, .bool a0_2, .int .i64 a0_3, .int .u16 a0_4, .int .u32 a0_5, .int .u32 a0_6, .slice A0_7 l0_7.length c0_7, .int .u16 a0_8, .slice A0_9 l0_9.length c0_9, .slice A0_10 l0_10.length c0_10, .int .i64 a0_11]] rfl (by (try simp only [List.map_toArray, List.map_cons, List.map_nil]); first | done | rfl | (simp only [List.length_drop, List.length_take]; rfl)) ?_; (with_reducible refine (packet_Right.calls kj17 a0_0 a0_1 a0_2 a0_3 a0_4 a0_5 a0_6 _ _ l0_7 a0_8 _ _ l0_9 _ _ l0_10 a0_11 t916 _ ?side1 ?side2 ?side3 ?side4 ?side5 ?side6 A59.out).mono ?_); (case side1 => exact cbE HR0_7 HB); (case side2 => exact HC0_7.out); (case side3 => exact cbE HR0_9 HB); (case side4 => exact HC0_9.out); (case side5 => exact cbE HR0_10 HB); (case side6 => exact HC0_10.out); rintro e w84 ⟨rfl, hb⟩; refine ⟨_, rfl, ?_⟩; replace HO885 := rbE HO885 hb; replace HO889 := rbE HO889 hb; replace HO892 := rbE HO892 hb; replace HO905 := rbE HO905 hb; replace HO909 := rbE HO909 hb; replace HO912 := rbE HO912 hb; replace BK860 := bbE BK860 hb; replace BK895 := bbE BK895 hb; replace BK915 := bbE BK915 hb; replace HB := bstE HB hb; (try clear hb); (try clear hb2); (try clear hk); (try clear hi); obtain ⟨Z85_0, Z85_1, Z85_2, Z85_3, Z85_4, Z85_5, Z85_6, Z85_7, Z85_8, Z85_9, Z85_10, Z85_11, Y85_0, Y85_1, Y85_2, Y85_3, Y85_4, Y85_5, Y85_6, Y85_7, Y85_8, Y85_9, Y85_10, Y85_11⟩ := bc12 BK895.out; obtain ⟨Z86_0, Z86_1, Z86_2, Z86_3, Z86_4, Z86_5, Z86_6, Z86_7, Z86_8, Z86_9, Z86_10, Z86_11, Y86_0, Y86_1, Y86_2, Y86_3, Y86_4, Y86_5, Y86_6, Y86_7, Y86_8, Y86_9, Y86_10, Y86_11⟩ := bc12 BK915.out) | (go_at_call 18; (with_reducible refine (crossbarref06_Same.calls kj17 t876 t877 t878 t879 t880 t881 t882 _ _ t883 t886 _ _ t887 _ _ t890 t893 t896 t897 t898 t899 t900 t901 t902 _ _ t903 t906 _ _ t907 _ _ t910 t913 true _ ?side1 ?side2 ?side3 ?side4 ?side5 ?side6 ?side7 ?side8 ?side9 ?side10 ?side11 ?side12 A62.out).mono ?_); (case side1 => exact cE (Kd.R_reads' HO885.out).2.2); (case side2 => exact (Kd.R_reads' HO885.out).2.1); (case side3 => exact cE (Kd.R_reads' HO889.out).2.2); (case side4 => exact (Kd.R_reads' HO889.out).2.1); (case side5 => exact cE (Kd.R_reads' HO892.out).2.2); (case side6 => exact (Kd.R_reads' HO892.out).2.1); (case side7 => exact cE (Kd.R_reads' HO905.out).2.2); (case side8 => exact (Kd.R_reads' HO905.out).2.1); (case side9 => exact cE (Kd.R_reads' HO909.out).2.2); (case side10 => exact (Kd.R_reads' HO909.out).2.1); (case side11 => exact cE (Kd.R_reads' HO912.out).2.2); (case side12 => exact (Kd.R_reads' HO912.out).2.1); rintro e w87 ⟨rfl, hb⟩; replace HO885 := rbE HO885 hb; replace HO889 := rbE HO889 hb; replace HO892 := rbE HO892 hb; replace HO905 := rbE HO905 hb; replace HO909 := rbE HO909 hb; replace HO912 := rbE HO912 hb; replace BK860 := bbE BK860 hb; replace BK895 := bbE BK895 hb; replace BK915 := bbE BK915 hb; replace HB := bstE HB hb; (try clear hb); (try clear hb2); (try clear hk); (try clear hi)) | (go_at_call 28; (with_reducible refine (packet_Canon.calls kj17 _ _ l2 t918 _ ?side1 ?side2 A64.out).mono ?_); (case side1 => exact cbE HR2 HB); (case side2 => exact HC2.out); rintro e w88 ⟨rfl, hb⟩; replace HO885 := rbE HO885 hb; replace HO889 := rbE HO889 hb; replace HO892 := rbE HO892 hb; replace HO905 := rbE HO905 hb; replace HO909 := rbE HO909 hb; replace HO912 := rbE HO912 hb; replace BK860 := bbE BK860 hb; replace BK895 := bbE BK895 hb; replace BK915 := bbE BK915 hb; replace HB := bstE HB hb; (try clear hb); (try clear hb2); (try clear hk); (try clear hi)) | (go_at_call 29; (with_reducible refine (crossbarref06_Canon.calls kj17 _ _ l2 t919 _ ?side1 ?side2 A65.out).mono ?_); (case side1 => exact cbE HR2 HB); (case side2 => exact HC2.out); rintro e w89 ⟨rfl, hb⟩; replace HO885 := rbE HO885 hb; replace HO889 := rbE HO889 hb; replace HO892 := rbE HO892 hb; replace HO905 := rbE HO905 hb; replace HO909 := rbE HO909 hb; replace HO912 := rbE HO912 hb; replace BK860 := bbE BK860 hb; replace BK895 := bbE BK895 hb; replace BK915 := bbE BK915 hb; replace HB := bstE HB hb; (try clear hb); (try clear hb2); (try clear hk); (try clear hi)))
         go_ret
         exact ⟨by first | rfl | (simp [errW_none, errW_some] <;> rfl) | (simp [*, errW_none, errW_some] <;> rfl), by repeat (first | (with_reducible first | exact HB.out | apply below_alloc | apply pw_below_drewN | apply below_drew1 | refine below_set ?_ GE860.out | refine below_set ?_ GE895.out | refine below_set ?_ GE915.out) | exact HB.out)⟩
        replace c63 := Bool.eq_false_iff.mpr c63
        subst c63
        have H1 : (none) = some r := by rw [if_neg (show ¬ (false = true) by decide)] at H; exact H
        clear H
        have H := H1
        clear H1
        exact absurd H (by simp)
       rw [if_neg c61] at H
       exact absurd H (by simp)
      rw [if_neg c60] at H
      exact absurd H (by simp)
 replace c5 := Bool.eq_false_iff.mpr c5
 subst c5
 have H1 : (none) = some r := by rw [if_neg (show ¬ (false = true) by decide)] at H; exact H
 clear H
 have H := H1
 clear H1
 exact absurd H (by simp)
end Go.Proofs.Ytcbdgknfkoodoaa.F
namespace Go.Proofs.YtcbdgknfkoodoaaW.RowKd
open Go Go.ChangeShapes Go.WideShapes Go.RowKit Go.Deep Go.Proofs.YtcbdgknfkoodoaaW.PrintWords
set_option linter.unusedVariables false
abbrev IQ (k : IntKind) : Int → Prop := fun n => (Lit.int k n).wf = true
abbrev TQ : Bool → Prop := fun _ => True
abbrev LQ {α : Type} (Q : α → Prop) : List α → Prop := fun xs => xs.length ≤ maxLen ∧ ∀ x ∈ xs, Q x
abbrev PQ {α β : Type} (Q : α → Prop) (Q' : β → Prop) : α × β → Prop := fun v => Q v.1 ∧ Q' v.2
def Opn (H : Type) (enc : TypeId × Value → H) (P : Program) (w : World) {α : Type} (d : Kd α) (t : TypeId) (Q : α → Prop) : Prop :=
  ∀ (fuel : Nat) (cs : List Value) (x : DataW H × List MemPlace), DataW.trod enc P w 0 (fun _ => true) true fuel t cs = some x → ∃ v, d.K w v cs ∧ Q v
section
variable {H : Type} {enc : TypeId × Value → H} {P : Program} {w : World}
theorem op_int {t : TypeId} {k : IntKind} (ht : P.underlying t = some (.int k)) : Opn H enc P w (Kd.int k) t (IQ k) := by
  intro fuel cs x h
  obtain ⟨n, rfl, _, hw⟩ := DataW.trod_int ht h
  exact ⟨n, rfl, hw⟩
theorem op_bool {t : TypeId} (ht : P.underlying t = some .bool) : Opn H enc P w Kd.bool t TQ := by
  intro fuel cs x h
  obtain ⟨n, rfl, _⟩ := DataW.trod_bool ht h
  exact ⟨n, rfl, trivial⟩
theorem list_of {α : Type} {p : Nat → α → Prop} : ∀ {n : Nat}, (∀ i, i < n → ∃ v, p i v) → ∃ xs : List α, xs.length = n ∧ ∀ i v, xs[i]? = some v → p i v
  | 0, _ => ⟨[], rfl, fun i v h => by simp at h⟩
  | n + 1, h => by
    obtain ⟨xs, hl, hx⟩ := list_of (n := n) (fun i hi => h i (by omega))
    obtain ⟨v, hv⟩ := h n (by omega)
    refine ⟨xs ++ [v], by simp [hl], fun i u hu => ?_⟩
    by_cases hi : i < n
    · rw [List.getElem?_append_left (by omega)] at hu
      exact hx i u hu
    · rw [List.getElem?_append_right (by omega)] at hu
      have hi' : i = n := by
        by_cases h' : i - xs.length = 0
        · omega
        · rw [List.getElem?_eq_none (by simp; omega)] at hu
          exact absurd hu (by simp)
      subst hi'
      simp [hl] at hu
      subst hu
      exact hv
theorem maxLen_le : maxLen ≤ 9223372036854775807 := by decide
theorem op_slice {α : Type} {d : Kd α} {t e : TypeId} (g : Nat) {Q : α → Prop} (ht : P.underlying t = some (.slice e)) (hd : P.cellsOf e = d.sz) (he : Opn H enc P w d e Q) :
    Opn H enc P w (Kd.slice g d) t (LQ Q) := by
  intro fuel cs x h
  rcases DataW.trod_slice ht h with ⟨rfl, _⟩ | ⟨a, len, cap, elems, rest, n, _, rfl, _, hb, hl, hm, hlen, hel, _, _⟩
  · exact ⟨[], ⟨none, 0, rfl, Nat.le_refl _, rfl, Nat.zero_le _, fun h => absurd h (by simp)⟩, Nat.zero_le _, fun _ h => by simp at h⟩
  have each : ∀ i, i < len → ∃ v, (∃ c, c.length = d.sz ∧ d.K w v c ∧ ∀ j u, c[j]? = some u → w.cell? (a.add (i * d.sz + j)) = some u) ∧ Q v := by
    intro i hi
    have h1 := hel i hi
    rw [List.getElem?_eq_getElem (by omega)] at h1
    obtain ⟨c, hc, hx⟩ := Option.bind_eq_some_iff.1 h1
    obtain ⟨v, hv, hq⟩ := he n c _ hx
    obtain ⟨_, hcl, hcell⟩ := World.cells?_some hc
    refine ⟨v, ⟨c, by rw [hcl, hd], hv, fun j u hu => ?_⟩, hq⟩
    have hj : j < P.cellsOf e := by
      rw [← hcl]
      exact (List.getElem?_eq_some_iff.1 hu).1
    have := hcell j hj
    rw [Go.Deep.add_add, hu, hd] at this
    exact this
  obtain ⟨xs, hxl, hx⟩ := list_of each
  subst hxl
  refine ⟨xs, ⟨some a, cap, rfl, hl, rfl, Nat.le_trans hl (Nat.le_trans hm maxLen_le), fun _ => ⟨a, rfl, fun j p hp => (hx j p hp).1⟩⟩, Nat.le_trans hl hm, fun y hy => ?_⟩
  obtain ⟨i, hi⟩ := List.getElem?_of_mem hy
  exact (hx i y hi).2
def OpF (H : Type) (enc : TypeId × Value → H) (P : Program) (w : World) {α : Type} (d : Kd α) (off all : Nat) (fs : List Field) (Q : α → Prop) : Prop :=
  ∀ (n : Nat) (cs : List Value), cs.length = all → (∀ f ∈ fs, ∃ y, DataW.trod enc P w 0 (fun _ => true) true n f.type ((cs.drop f.offset).take (P.cellsOf f.type)) = some y) → ∃ v, d.K w v (cs.drop off) ∧ Q v
theorem opf_one {α : Type} {d : Kd α} {f : Field} {off all : Nat} {Q : α → Prop} (ho : f.offset = off) (ha : off + P.cellsOf f.type = all) (h : Opn H enc P w d f.type Q) : OpF H enc P w d off all [f] Q := by
  intro n cs hl hf
  obtain ⟨y, hy⟩ := hf f (by simp)
  rw [ho, List.take_of_length_le (by simp; omega)] at hy
  exact h _ _ _ hy
theorem opf_cons {α β : Type} {d : Kd α} {d' : Kd β} {f : Field} {fs : List Field} {off all : Nat} {Q : α → Prop} {Q' : β → Prop} (ho : f.offset = off) (h : Opn H enc P w d f.type Q) (h' : OpF H enc P w d' (off + P.cellsOf f.type) all fs Q') :
    OpF H enc P w (Kd.pair d d') off all (f :: fs) (PQ Q Q') := by
  intro n cs hl hf
  obtain ⟨y, hy⟩ := hf f (by simp)
  obtain ⟨v, hv, hq⟩ := h _ _ _ hy
  obtain ⟨v', hv', hq'⟩ := h' n cs hl (fun g hg => hf g (List.mem_cons_of_mem _ hg))
  refine ⟨(v, v'), ⟨_, _, ?_, hv, hv'⟩, hq, hq'⟩
  rw [ho, ← List.drop_drop, List.take_append_drop]
theorem op_struct {α : Type} {d : Kd α} {t : TypeId} {fs : Array Field} {l : List Field} {Q : α → Prop} (ht : P.underlying t = some (.struct fs)) (hl : fs.toList = l) {all : Nat} (ha : P.cellsOf t = all) (h : OpF H enc P w d 0 all l Q) : Opn H enc P w d t Q := by
  intro fuel cs x hx
  obtain ⟨xs, n, _, _, hlen, hxl, hf⟩ := DataW.trod_struct ht hx
  have := h n cs (by rw [hlen, ha]) (fun f hfm => by
    rw [← hl] at hfm
    obtain ⟨i, hi⟩ := List.getElem?_of_mem hfm
    have hi' : fs[i]? = some f := by simpa using hi
    have h2 := hf i f hi'
    have hlt : i < xs.length := by
      rw [hxl]
      exact (Array.getElem?_eq_some_iff.1 hi').1
    rw [List.getElem?_eq_getElem hlt] at h2
    exact ⟨_, h2⟩)
  simpa using this
theorem Opn.read {α : Type} {d : Kd α} {t : TypeId} {Q : α → Prop} (h : Opn H enc P w d t Q) {v : Value} {x : DataW H} {ps : List MemPlace} (ht : DataW.Trod enc P w 0 (fun _ => true) true t v x ps) : ∃ y, d.K w y v.cells.toList ∧ Q y := by
  obtain ⟨fuel, hf⟩ := ht
  exact h _ _ _ hf
end
end Go.Proofs.YtcbdgknfkoodoaaW.RowKd
namespace Go.Proofs.Ytcbdgknfkoodoaa.F
open Go Go.RowKit Go.Proofs.YtcbdgknfkoodoaaW.PrintWords Go.Proofs.YtcbdgknfkoodoaaW.PrintLast Go.Proofs.YtcbdgknfkoodoaaW.PrintMore Go.Proofs.YtcbdgknfkoodoaaW.RowKd
set_option linter.unusedVariables false
theorem op_T43 {H : Type} {enc : TypeId × Value → H} {w : World} : Opn H enc Try.prog w (Kd.pair (Kd.bool) (Kd.pair (Kd.bool) (Kd.pair (Kd.bool) (Kd.pair (Kd.int .i64) (Kd.pair (Kd.int .u16) (Kd.pair (Kd.int .u32) (Kd.pair (Kd.int .u32) (Kd.slice 40 (Kd.int .u32))))))))) 43 (PQ TQ (PQ TQ (PQ TQ (PQ (IQ .i64) (PQ (IQ .u16) (PQ (IQ .u32) (PQ (IQ .u32) (LQ (IQ .u32))))))))) := op_struct Try.underlying43 rfl (all := 8) (by kernel_rfl) (opf_cons rfl (op_bool Try.underlying4) (opf_cons rfl (op_bool Try.underlying4) (opf_cons rfl (op_bool Try.underlying4) (opf_cons rfl (op_int Try.underlying3) (opf_cons rfl (op_int Try.underlying39) (opf_cons rfl (op_int Try.underlying40) (opf_cons rfl (op_int Try.underlying40) (opf_one rfl (by kernel_rfl) (op_slice 40 Try.underlying41 (by kernel_rfl) (op_int Try.underlying40))))))))))
theorem op_T45 {H : Type} {enc : TypeId × Value → H} {w : World} : Opn H enc Try.prog w (Kd.pair (Kd.pair (Kd.bool) (Kd.pair (Kd.bool) (Kd.pair (Kd.bool) (Kd.pair (Kd.int .i64) (Kd.pair (Kd.int .u16) (Kd.pair (Kd.int .u32) (Kd.pair (Kd.int .u32) (Kd.slice 40 (Kd.int .u32))))))))) (Kd.pair (Kd.int .u16) (Kd.pair (Kd.slice 5 (Kd.int .u8)) (Kd.pair (Kd.slice 5 (Kd.int .u8)) (Kd.int .i64))))) 45 (PQ (PQ TQ (PQ TQ (PQ TQ (PQ (IQ .i64) (PQ (IQ .u16) (PQ (IQ .u32) (PQ (IQ .u32) (LQ (IQ .u32))))))))) (PQ (IQ .u16) (PQ (LQ (IQ .u8)) (PQ (LQ (IQ .u8)) (IQ .i64))))) := op_struct Try.underlying45 rfl (all := 12) (by kernel_rfl) (opf_cons rfl (op_T43) (opf_cons rfl (op_int Try.underlying39) (opf_cons rfl (op_slice 5 Try.underlying22 (by kernel_rfl) (op_int Try.underlying5)) (opf_cons rfl (op_slice 5 Try.underlying22 (by kernel_rfl) (op_int Try.underlying5)) (opf_one rfl (by kernel_rfl) (op_int Try.underlying3))))))
def crossbarlaw06_PacketRight.PureS : Prop := ∀ (a0_0 : Bool) (a0_1 : Bool) (a0_2 : Bool) (a0_3 : Int) (a0_4 : Int) (a0_5 : Int) (a0_6 : Int) (l0_7 : List (Int)) (a0_8 : Int) (l0_9 : List (Int)) (l0_10 : List (Int)) (a0_11 : Int) (a1 : Int) (l2 : List (Int)), (IQ .i64) a0_3 → (IQ .u16) a0_4 → (IQ .u32) a0_5 → (IQ .u32) a0_6 → l0_7.length ≤ maxLen → (∀ x ∈ l0_7, (IQ .u32) x) → (IQ .u16) a0_8 → l0_9.length ≤ maxLen → (∀ x ∈ l0_9, (IQ .u8) x) → l0_10.length ≤ maxLen → (∀ x ∈ l0_10, (IQ .u8) x) → (IQ .i64) a0_11 → (IQ .i64) a1 → l2.length ≤ maxLen → (∀ x ∈ l2, (IQ .u8) x) → ∃ k, crossbarlaw06_PacketRight.f k a0_0 a0_1 a0_2 a0_3 a0_4 a0_5 a0_6 l0_7 a0_8 l0_9 l0_10 a0_11 a1 l2 = some true
end Go.Proofs.Ytcbdgknfkoodoaa.F
namespace Go.Proofs.Ytcbdgknfkoodoaa.S
open Go.RowKit Go.Proofs.YtcbdgknfkoodoaaW.PrintWords
set_option linter.unusedVariables false
set_option linter.unusedSimpArgs false
def Byt (l : List Int) : Prop := ∀ x ∈ l, 0 ≤ x ∧ x ≤ 255
theorem brd {l : List Int} (h : Byt l) (i : Int) : 0 ≤ rd l i ∧ rd l i ≤ 255 := by
  unfold rd
  by_cases hi : i.toNat < l.length
  · rw [List.getD_eq_getElem?_getD, List.getElem?_eq_getElem hi]
    exact h _ (List.getElem_mem hi)
  · rw [List.getD_eq_getElem?_getD, List.getElem?_eq_none (by omega)]
    simp
theorem Byt.take {l : List Int} (h : Byt l) (n : Nat) : Byt (l.take n) := fun x hx => h x (List.mem_of_mem_take hx)
theorem Byt.drop {l : List Int} (h : Byt l) (n : Nat) : Byt (l.drop n) := fun x hx => h x (List.mem_of_mem_drop hx)
theorem Byt.append {l m : List Int} (h : Byt l) (k : Byt m) : Byt (l ++ m) := fun x hx => by
  rcases List.mem_append.1 hx with hx | hx
  · exact h x hx
  · exact k x hx
theorem byt_of_wf {l : List Int} (h : ∀ x ∈ l, (Lit.int .u8 x).wf = true) : Byt l := fun x hx => by
  have := h x hx
  simp [Lit.wf, IntKind.min, IntKind.max, IntKind.signed, IntKind.bits] at this
  omega
theorem w64 {n : Int} (h0 : -9223372036854775808 ≤ n) (h1 : n ≤ 9223372036854775807) : wrap64 n = n := IntWalk.wrap64_in n ⟨h0, h1⟩
theorem u64w {n : Int} (h0 : 0 ≤ n) (h1 : n ≤ 18446744073709551615) : IntKind.u64.wrap n = n := IntWalk.u64_in n ⟨h0, h1⟩
theorem u16w {n : Int} (h0 : 0 ≤ n) (h1 : n ≤ 65535) : IntKind.u16.wrap n = n := IntWalk.u16_in n ⟨h0, h1⟩
theorem rd_eq {l : List Int} {i : Int} (h0 : 0 ≤ i) (h1 : i < l.length) : rd l i = l[i.toNat]'(by omega) := by
  unfold rd
  rw [List.getD_eq_getElem?_getD, List.getElem?_eq_getElem (by omega)]
  rfl
theorem rd_nat (l : List Int) (i : Nat) : rd l (i : Int) = l.getD i 0 := by simp [rd]
def be (v : Int) (y : List Int) : Int := y.foldl (fun v x => v * 256 + x) v
theorem be_cons (v x : Int) (y : List Int) : be v (x :: y) = be (v * 256 + x) y := rfl
theorem be_nil (v : Int) : be v [] = v := rfl
theorem be_range {y : List Int} (h : Byt y) : ∀ v : Int, 0 ≤ v → 0 ≤ be v y ∧ be v y < (v + 1) * 256 ^ y.length := by
  induction y with
  | nil => intro v hv; simp [be]; omega
  | cons x y ih =>
    intro v hv
    have hx := h x (by simp)
    have := ih (fun z hz => h z (by simp [hz])) (v * 256 + x) (by omega)
    rw [be_cons]
    refine ⟨this.1, Int.lt_of_lt_of_le this.2 ?_⟩
    rw [List.length_cons, Int.pow_succ, Int.mul_comm (256 ^ y.length) 256, ← Int.mul_assoc]
    exact Int.mul_le_mul_of_nonneg_right (by omega) (Int.pow_nonneg (by decide))
theorem or_join {x y : Int} (hx0 : 0 ≤ x) (hx : x < 72057594037927936) (hy0 : 0 ≤ y) (hy : y ≤ 255) :
    Go.bits .or .u64 (IntKind.u64.wrap (x * 256)) (IntKind.u64.wrap y) = x * 256 + y := by
  rw [u64w (by omega) (by omega), u64w (by omega) (by omega)]
  exact bits_join .u64 64 (by decide) (fun n h0 h1 => u64w h0 (by omega)) 8 _ _ (by omega) (by omega) (by omega) (by omega) (by omega) (by omega)
theorem or_join16 {x y : Int} (hx0 : 0 ≤ x) (hx : x ≤ 255) (hy0 : 0 ≤ y) (hy : y ≤ 255) :
    Go.bits .or .u16 (IntKind.u16.wrap ((IntKind.u16.wrap x) * 256)) (IntKind.u16.wrap y) = x * 256 + y := by
  rw [u16w hx0 (by omega), u16w (by omega) (by omega), u16w (by omega) (by omega)]
  exact bits_join .u16 16 (by decide) (fun n h0 h1 => u16w h0 (by omega)) 8 _ _ (by omega) (by omega) (by omega) (by omega) (by omega) (by omega)
theorem or_join64 {x y : Int} (hx0 : 0 ≤ x) (hx : x ≤ 255) (hy0 : 0 ≤ y) (hy : y ≤ 255) :
    Go.bits .or .i64 (wrap64 ((wrap64 x) * 256)) (wrap64 y) = x * 256 + y := by
  rw [w64 (n := x) (by omega) (by omega), w64 (by omega) (by omega), w64 (by omega) (by omega)]
  exact bits_join .i64 62 (by decide) (fun n h0 h1 => by rw [IntKind.wrap_i64]; omega) 8 _ _ (by omega) (by omega) (by omega) (by omega) (by omega) (by omega)
theorem nat_of {x : Int} (h0 : 0 ≤ x) (h1 : x ≤ 255) : ∃ n : Nat, n < 256 ∧ x = n := ⟨x.toNat, by omega, by omega⟩
theorem and8 : ∀ n : Nat, n < 256 → Go.bits .and .u8 (n : Int) 15 = ((n % 16 : Nat) : Int) ∧ (Go.bits .and .u8 (n : Int) 32 != 0) = decide (n / 32 % 2 = 1) ∧ (Go.bits .and .u8 (n : Int) 16 != 0) = decide (n / 16 % 2 = 1) ∧ (Go.bits .and .u8 (n : Int) 128 != 0) = decide (128 ≤ n) ∧ Go.bits .and .u8 (n : Int) 127 = ((n % 128 : Nat) : Int) := by decide +kernel
theorem and15 {x : Int} (h0 : 0 ≤ x) (h1 : x ≤ 255) : Go.bits .and .u8 x 15 = x % 16 := by
  obtain ⟨n, hn, rfl⟩ := nat_of h0 h1
  rw [(and8 n hn).1]; omega
theorem and32 {x : Int} (h0 : 0 ≤ x) (h1 : x ≤ 255) : (Go.bits .and .u8 x 32 != 0) = decide (x / 32 % 2 = 1) := by
  obtain ⟨n, hn, rfl⟩ := nat_of h0 h1
  rw [(and8 n hn).2.1]; apply decide_eq_decide.2; omega
theorem and16 {x : Int} (h0 : 0 ≤ x) (h1 : x ≤ 255) : (Go.bits .and .u8 x 16 != 0) = decide (x / 16 % 2 = 1) := by
  obtain ⟨n, hn, rfl⟩ := nat_of h0 h1
  rw [(and8 n hn).2.2.1]; apply decide_eq_decide.2; omega
theorem and128 {x : Int} (h0 : 0 ≤ x) (h1 : x ≤ 255) : (Go.bits .and .u8 x 128 != 0) = decide (128 ≤ x) := by
  obtain ⟨n, hn, rfl⟩ := nat_of h0 h1
  rw [(and8 n hn).2.2.2.1]; apply decide_eq_decide.2; omega
theorem and127 {x : Int} (h0 : 0 ≤ x) (h1 : x ≤ 255) : Go.bits .and .u8 x 127 = x % 128 := by
  obtain ⟨n, hn, rfl⟩ := nat_of h0 h1
  rw [(and8 n hn).2.2.2.2]; omega
theorem ob {α β : Type} (a : α) (f : α → Option β) : (some a).bind f = f a := Eq.trans (Option.bind_some a f) (Eq.refl _)
theorem Ev.pos {α : Type} {c : Prop} [Decidable c] {x y : Nat → Option α} {r : α} (h : c) (e : Ev x r) : Ev (fun k => if c then x k else y k) r := Ev.congr (fun k => if_pos h) e
theorem Ev.neg {α : Type} {c : Prop} [Decidable c] {x y : Nat → Option α} {r : α} (h : ¬ c) (e : Ev y r) : Ev (fun k => if c then x k else y k) r := Ev.congr (fun k => if_neg h) e
theorem Ev.eq {α : Type} {g : Nat → Option α} {r : α} (h : ∀ k, g k = some r) : Ev g r := ⟨0, fun k _ => h k⟩
end Go.Proofs.Ytcbdgknfkoodoaa.S
namespace Go.Proofs.Ytcbdgknfkoodoaa.S
open Go.RowKit Go.Proofs.YtcbdgknfkoodoaaW.PrintWords Go.Proofs.Ytcbdgknfkoodoaa.F
set_option linter.unusedVariables false
set_option linter.unusedSimpArgs false
theorem get_loop {y : List Int} (hb : Byt y) (h8 : y.length ≤ 8) : ∀ (d i : Nat) (v : Int), i + d = y.length → 0 ≤ v → v < ((256 ^ i : Nat) : Int) → Ev (fun k => octet_Get.l0 k v y (y.length : Int) (i : Int)) (be v (y.drop i), 0) := by
  intro d
  induction d with
  | zero =>
    intro i v hi hv hv2
    refine Ev.step (f := fun _ => some (be v (y.drop i), 0)) (fun k => ?_) (Ev.now _)
    simp only [octet_Get.l0]
    rw [if_neg (by omega), List.drop_of_length_le (by omega)]
    rfl
  | succ d ih =>
    intro i v hi hv hv2
    have hx := brd hb (i : Int)
    have hp : 256 ^ i ≤ 72057594037927936 := Nat.le_trans (Nat.pow_le_pow_right (show 0 < 256 by decide) (show i ≤ 7 by omega)) (by decide)
    have hv3 : v < 72057594037927936 := Int.lt_of_lt_of_le hv2 (Int.ofNat_le.2 hp)
    refine Ev.step (f := fun k => octet_Get.l0 k (v * 256 + rd y i) y (y.length : Int) ((i + 1 : Nat) : Int)) (fun k => ?_) ?_
    · conv => lhs; unfold octet_Get.l0
      rw [if_pos (by omega), if_pos (by omega), if_pos (by omega), or_join hv hv3 hx.1 hx.2, w64 (by omega) (by omega)]
      rfl
    · have := ih (i + 1) (v * 256 + rd y i) (by omega) (by omega) (by rw [Nat.pow_succ, Int.natCast_mul]; omega)
      have hd : y.drop i = rd y i :: y.drop (i + 1) := by
        rw [List.drop_eq_getElem_cons (show i < y.length by omega), rd_eq (by omega) (by omega)]
        rfl
      rw [hd, be_cons]
      exact this
def cutn (l : List Int) (at_ n : Nat) : List Int := (l.drop at_).take n
def w32 (l : List Int) (at_ : Nat) : Int := be 0 (cutn l at_ 4)
theorem w32_range {l : List Int} (hb : Byt l) (a : Nat) (h : a + 4 ≤ l.length) : 0 ≤ w32 l a ∧ w32 l a < 4294967296 := by
  have := be_range (y := cutn l a 4) ((hb.drop a).take 4) 0 (by omega)
  have hl : (cutn l a 4).length = 4 := by simp [cutn]; omega
  rw [hl] at this
  exact this
theorem get4_ev {l : List Int} (hb : Byt l) (hl : l.length ≤ 140737488351232) (a : Nat) (h : a + 4 ≤ l.length) : Ev (fun k => octet_Get.f k l (a : Int) 4) (w32 l a, 0) := by
  have hy : (l.take (a + 4)).drop a = cutn l a 4 := by rw [cutn, List.drop_take]; congr 1; omega
  have hyl : (cutn l a 4).length = 4 := by simp [cutn]; omega
  refine Ev.step (f := fun k => octet_Get.l0 k 0 (cutn l a 4) ((cutn l a 4).length : Int) ((0 : Nat) : Int)) (fun k => ?_) ?_
  · simp only [octet_Get.f]
    rw [if_neg (by omega), if_neg (by omega), show decide ((a : Int) < 0) = false from decide_eq_false (by omega)]
    simp only [octet_Get.j0]
    rw [if_neg Bool.false_ne_true]
    have hs : octet_span.f (l.length : Int) (a : Int) 4 = some 0 := by
      unfold octet_span.f
      rw [if_neg (by omega), w64 (by omega) (by omega), if_neg (by omega)]
    rw [hs]
    simp only [ob]
    rw [if_pos trivial, if_pos (by omega), w64 (by omega) (by omega), if_pos (by omega), if_pos (by omega)]
    rw [show ((a : Int) + 4).toNat = a + 4 by omega, Int.toNat_natCast, hy]
    rfl
  · have := get_loop (y := cutn l a 4) ((hb.drop a).take 4) (by omega) 4 0 0 (by omega) (by omega) (by decide)
    rw [List.drop_zero] at this
    exact this
theorem word_ev {l : List Int} (hb : Byt l) (hl : l.length ≤ 140737488351232) (a : Nat) (h : a + 4 ≤ l.length) : Ev (fun k => head_wordAt.f k l (a : Int)) (w32 l a) := by
  have hr := w32_range hb a h
  have e1 := get4_ev hb hl a h
  refine Ev.congr (f := fun k => (octet_Get.f k l (a : Int) 4).bind fun b => some (b.1 % 4294967296)) (fun k => by unfold head_wordAt.f; rfl) (Ev.bind e1 (f := fun _ b => some (b.1 % 4294967296)) ?_)
  refine Ev.eq fun k => ?_
  dsimp only
  rw [Int.emod_eq_of_lt hr.1 hr.2]
structure Hd where
  pad : Bool
  ext : Bool
  mark : Bool
  typ : Int
  seq : Int
  tm : Int
  ssrc : Int
  csrc : List Int
def Hd.zero : Hd := ⟨false, false, false, 0, 0, 0, 0, []⟩
def words (l : List Int) (a n : Nat) : List Int := (List.range n).map fun i => w32 l (a + 4 * i)
def headM (l : List Int) : Hd × Int × Int :=
  if l.length < 12 then (.zero, 0, 2) else if rd l 0 / 64 ≠ 2 then (.zero, 0, 3) else if (l.length : Int) < 12 + 4 * (rd l 0 % 16) then (.zero, 0, 2) else
  (⟨decide (rd l 0 / 32 % 2 = 1), decide (rd l 0 / 16 % 2 = 1), decide (128 ≤ rd l 1), rd l 1 % 128, rd l 2 * 256 + rd l 3, w32 l 4, w32 l 8, words l 12 (rd l 0 % 16).toNat⟩, 12 + 4 * (rd l 0 % 16), 0)
abbrev hflat (h : Hd × Int × Int) : Bool × Bool × Bool × Int × Int × Int × Int × List Int × Int × Int := (h.1.pad, h.1.ext, h.1.mark, h.1.typ, h.1.seq, h.1.tm, h.1.ssrc, h.1.csrc, h.2.1, h.2.2)
theorem head_loop {l : List Int} (hb : Byt l) (hl : l.length ≤ 140737488351232) {n : Nat} (hn : n ≤ 15) (h : 12 + 4 * n ≤ l.length) (x6 : Int) (p e m : Bool) (ty sq tm ss : Int) :
    ∀ (d i : Nat), i + d = n → Ev (fun k => head_Read.l0 k l (n : Int) x6 (i : Int) p e m ty sq tm ss (words l 12 i)) (p, e, m, ty, sq, tm, ss, words l 12 n, x6, 0) := by
  intro d
  induction d with
  | zero =>
    intro i hi
    obtain rfl : i = n := by omega
    refine Ev.step (f := fun _ => some (p, e, m, ty, sq, tm, ss, words l 12 i, x6, 0)) (fun k => ?_) (Ev.now _)
    simp only [head_Read.l0]
    rw [if_neg (by omega)]
  | succ d ih =>
    intro i hi
    refine Ev.step (f := fun k => (head_wordAt.f k l ((12 + 4 * i : Nat) : Int)).bind fun t => if (words l 12 i).length < 35184372088832 then head_Read.l0 k l (n : Int) x6 ((i + 1 : Nat) : Int) p e m ty sq tm ss (words l 12 i ++ [t]) else none) (fun k => ?_) ?_
    · conv => lhs; unfold head_Read.l0
      rw [if_pos (by omega), w64 (n := 4 * (i : Int)) (by omega) (by omega), w64 (by omega) (by omega), w64 (n := (i : Int) + 1) (by omega) (by omega)]
      rfl
    · refine Ev.bind (word_ev hb hl (12 + 4 * i) (by omega)) ?_
      refine Ev.congr (f := fun k => head_Read.l0 k l (n : Int) x6 ((i + 1 : Nat) : Int) p e m ty sq tm ss (words l 12 (i + 1))) (fun k => ?_) (ih (i + 1) (by omega))
      rw [if_pos (by simp [words]; omega)]
      congr 1
      simp [words, List.range_succ]
theorem head_ev {l : List Int} (hb : Byt l) (hl : l.length ≤ 140737488351232) : Ev (fun k => head_Read.f k l) (hflat (headM l)) := by
  have h0 := brd hb 0
  have h1 := brd hb 1
  have h2 := brd hb 2
  have h3 := brd hb 3
  by_cases c1 : l.length < 12
  · refine Ev.eq fun k => ?_
    simp only [head_Read.f, headM, if_pos c1, if_pos (show (l.length : Int) < 12 by omega)]
    rfl
  · by_cases c2 : rd l 0 / 64 = 2
    · by_cases c3 : (l.length : Int) < 12 + 4 * (rd l 0 % 16)
      · refine Ev.eq fun k => ?_
        simp only [head_Read.f, headM, if_neg c1, if_pos c3]
        rw [if_neg (by omega), if_pos (by omega), if_pos c2, and15 h0.1 h0.2, w64 (n := rd l 0 % 16) (by omega) (by omega), w64 (n := 4 * _) (by omega) (by omega), w64 (by omega) (by omega), if_pos c3, if_neg (by simpa using c2)]
        rfl
      · have hn : ((rd l 0 % 16).toNat : Int) = rd l 0 % 16 := by omega
        refine Ev.congr (f := fun k => (head_wordAt.f k l ((4 : Nat) : Int)).bind fun t => (head_wordAt.f k l ((8 : Nat) : Int)).bind fun u => head_Read.l0 k l ((rd l 0 % 16).toNat : Int) (12 + 4 * (rd l 0 % 16)) ((0 : Nat) : Int) (decide (rd l 0 / 32 % 2 = 1)) (decide (rd l 0 / 16 % 2 = 1)) (decide (128 ≤ rd l 1)) (rd l 1 % 128) (rd l 2 * 256 + rd l 3) t u (words l 12 0)) (fun k => ?_) ?_
        · simp only [head_Read.f]
          rw [if_neg (by omega), if_pos (by omega), if_pos c2, and15 h0.1 h0.2, w64 (n := rd l 0 % 16) (by omega) (by omega), w64 (n := 4 * _) (by omega) (by omega), w64 (n := 12 + _) (by omega) (by omega), if_neg c3, if_pos (by omega), if_pos (by omega), if_pos (by omega), and32 h0.1 h0.2, and16 h0.1 h0.2, and128 h1.1 h1.2, and127 h1.1 h1.2, w64 (n := rd l 1 % 128) (by omega) (by omega), or_join16 h2.1 h2.2 h3.1 h3.2, hn]
          rfl
        · refine Ev.bind (word_ev hb hl 4 (by omega)) (Ev.bind (word_ev hb hl 8 (by omega)) ?_)
          have := head_loop hb hl (n := (rd l 0 % 16).toNat) (by omega) (by omega) (12 + 4 * (rd l 0 % 16)) (decide (rd l 0 / 32 % 2 = 1)) (decide (rd l 0 / 16 % 2 = 1)) (decide (128 ≤ rd l 1)) (rd l 1 % 128) (rd l 2 * 256 + rd l 3) (w32 l 4) (w32 l 8) (rd l 0 % 16).toNat 0 (by omega)
          rw [show hflat (headM l) = _ from by simp only [headM, if_neg c1, if_neg c3, if_neg (show ¬ (rd l 0 / 64 ≠ 2) by simpa using c2)]; rfl]
          exact this
    · refine Ev.eq fun k => ?_
      simp only [head_Read.f, headM, if_neg c1]
      rw [if_neg (by omega), if_pos (by omega), if_neg c2, if_pos (by simpa using c2)]
      rfl
end Go.Proofs.Ytcbdgknfkoodoaa.S
