/- The walks of the program's functions and the plain proofs for this claim, merged by a program; each theorem says what it says, no conditions beyond those stated. -/
import Derived.Test.YtcbdgknfkoodoaaKD0
import Derived.Test.YtcbdgknfkoodoaaKD2
import Derived.Test.YtcbdgknfkoodoaaKD4
namespace Go.Proofs.Ytcbdgknfkoodoaa.F
open Go.RowKit Go.Proofs.YtcbdgknfkoodoaaW.PrintWords Go.Proofs.YtcbdgknfkoodoaaW.PrintLast Go.Proofs.YtcbdgknfkoodoaaW.PrintMore
attribute [local go_sem] max2_int min2_int max_two min_two max_three min_three max_four min_four   
set_option linter.unusedVariables false
set_option linter.unusedSimpArgs false
mutual
def head_Write.j0 : Nat → Int → Bool → Bool → Bool → Int → Int → Int → Int → List Int → Option (List Int × Int)
 | 0, _, _, _, _, _, _, _, _, _ => none
 | k + 1, x4, x620000, x620001, x620002, x620003, x620004, x620005, x620006, x620007 => if x620001 = true then (head_Write.j1 k (Go.bits .or .u8 x4 16) x620000 x620001 x620002 x620003 x620004 x620005 x620006 x620007) else (head_Write.j1 k x4 x620000 x620001 x620002 x620003 x620004 x620005 x620006 x620007)
def head_Write.j1 : Nat → Int → Bool → Bool → Bool → Int → Int → Int → Int → List Int → Option (List Int × Int)
 | 0, _, _, _, _, _, _, _, _, _ => none
 | k + 1, x4, x620000, x620001, x620002, x620003, x620004, x620005, x620006, x620007 => if x620002 = true then (head_Write.j2 k x4 (Go.bits .or .u8 ((x620003) % 256) 128) x620000 x620001 x620002 x620003 x620004 x620005 x620006 x620007) else (head_Write.j2 k x4 ((x620003) % 256) x620000 x620001 x620002 x620003 x620004 x620005 x620006 x620007)
def head_Write.j2 : Nat → Int → Int → Bool → Bool → Bool → Int → Int → Int → Int → List Int → Option (List Int × Int)
 | 0, _, _, _, _, _, _, _, _, _, _ => none
 | k + 1, x4, x5, x620000, x620001, x620002, x620003, x620004, x620005, x620006, x620007 => if 0 ≤ (wrap64 (12 + (wrap64 (4 * (x620007.length : Int))))) then (if (wrap64 (12 + (wrap64 (4 * (x620007.length : Int)))) : Int).toNat ≤ 281474976710656 then ((some (([] : List Int) : List Int)).bind fun y621 => ((some (([x4, x5, (x620004 / 256) % 256, (x620004) % 256] : List Int) : List Int)).bind fun y624 => (if y621.length + y624.length < 140737488355328 then ((head_word.f (y621 ++ y624) x620005).bind fun t630 => ((head_word.f t630 x620006).bind fun t633 => (head_Write.l0 k t633 x620007 (x620007.length : Int) 0))) else (none)))) else (none)) else (none)
def head_Write.l0 : Nat → List Int → List Int → Int → Int → Option (List Int × Int)
 | 0, _, _, _, _ => none
 | k + 1, x6, x59, x60, x61 => if x61 < x60 then (if 0 ≤ x61 then (if x61 < (x59.length : Int) then ((head_word.f x6 (rd x59 x61)).bind fun t637 => (head_Write.l0 k t637 x59 x60 (wrap64 (x61 + 1)))) else (none)) else (none)) else (some (x6, 0))
end
def head_Write.f (k : Nat) (a0_0 : Bool) (a0_1 : Bool) (a0_2 : Bool) (a0_3 : Int) (a0_4 : Int) (a0_5 : Int) (a0_6 : Int) (l0_7 : List Int) : Option (List Int × Int) := (head_Right.f a0_0 a0_1 a0_2 a0_3 a0_4 a0_5 a0_6 l0_7).bind fun t620 => (if t620 = true then (if a0_0 = true then (head_Write.j0 k (Go.bits .or .u8 ((Go.bits .or .i64 128 (l0_7.length : Int)) % 256) 32) a0_0 a0_1 a0_2 a0_3 a0_4 a0_5 a0_6 l0_7) else (head_Write.j0 k ((Go.bits .or .i64 128 (l0_7.length : Int)) % 256) a0_0 a0_1 a0_2 a0_3 a0_4 a0_5 a0_6 l0_7)) else (some (([] : List Int), 1)))
theorem head_Write.mono_l : ∀ k, (∀ y0 y1 y2 y3 y4 y5 y6 y7 y8, LeO (head_Write.j0 k y0 y1 y2 y3 y4 y5 y6 y7 y8) (head_Write.j0 (k + 1) y0 y1 y2 y3 y4 y5 y6 y7 y8)) ∧ (∀ y0 y1 y2 y3 y4 y5 y6 y7 y8, LeO (head_Write.j1 k y0 y1 y2 y3 y4 y5 y6 y7 y8) (head_Write.j1 (k + 1) y0 y1 y2 y3 y4 y5 y6 y7 y8)) ∧ (∀ y0 y1 y2 y3 y4 y5 y6 y7 y8 y9, LeO (head_Write.j2 k y0 y1 y2 y3 y4 y5 y6 y7 y8 y9) (head_Write.j2 (k + 1) y0 y1 y2 y3 y4 y5 y6 y7 y8 y9)) ∧ (∀ y0 y1 y2 y3, LeO (head_Write.l0 k y0 y1 y2 y3) (head_Write.l0 (k + 1) y0 y1 y2 y3))
 | 0 => ⟨fun _ _ _ _ _ _ _ _ _ r h => by simp [head_Write.j0] at h, fun _ _ _ _ _ _ _ _ _ r h => by simp [head_Write.j1] at h, fun _ _ _ _ _ _ _ _ _ _ r h => by simp [head_Write.j2] at h, fun _ _ _ _ r h => by simp [head_Write.l0] at h⟩
 | k + 1 => by
  obtain ⟨ih0, ih1, ih2, ih3⟩ := head_Write.mono_l k
  refine ⟨?_, ?_, ?_, ?_⟩
  ·intro y0 y1 y2 y3 y4 y5 y6 y7 y8
   unfold head_Write.j0
   repeat' first
   | (with_reducible exact ih0 _ _ _ _ _ _ _ _ _)
   | (with_reducible exact ih1 _ _ _ _ _ _ _ _ _)
   | (with_reducible exact ih2 _ _ _ _ _ _ _ _ _ _)
   | (with_reducible exact ih3 _ _ _ _)
   | (with_reducible exact LeO.refl _)
   | (with_reducible exact LeO.none _)
   | (with_reducible refine LeO.ite ?_ ?_)
   | (with_reducible refine LeO.bind ?_ (fun _ => ?_))
   | exact ih0 _ _ _ _ _ _ _ _ _
   | exact ih1 _ _ _ _ _ _ _ _ _
   | exact ih2 _ _ _ _ _ _ _ _ _ _
   | exact ih3 _ _ _ _
   | exact LeO.none _
   | refine LeO.ite ?_ ?_
   | refine LeO.bind ?_ (fun _ => ?_)
  ·intro y0 y1 y2 y3 y4 y5 y6 y7 y8
   unfold head_Write.j1
   repeat' first
   | (with_reducible exact ih0 _ _ _ _ _ _ _ _ _)
   | (with_reducible exact ih1 _ _ _ _ _ _ _ _ _)
   | (with_reducible exact ih2 _ _ _ _ _ _ _ _ _ _)
   | (with_reducible exact ih3 _ _ _ _)
   | (with_reducible exact LeO.refl _)
   | (with_reducible exact LeO.none _)
   | (with_reducible refine LeO.ite ?_ ?_)
   | (with_reducible refine LeO.bind ?_ (fun _ => ?_))
   | exact ih0 _ _ _ _ _ _ _ _ _
   | exact ih1 _ _ _ _ _ _ _ _ _
   | exact ih2 _ _ _ _ _ _ _ _ _ _
   | exact ih3 _ _ _ _
   | exact LeO.none _
   | refine LeO.ite ?_ ?_
   | refine LeO.bind ?_ (fun _ => ?_)
  ·intro y0 y1 y2 y3 y4 y5 y6 y7 y8 y9
   unfold head_Write.j2
   repeat' first
   | (with_reducible exact ih0 _ _ _ _ _ _ _ _ _)
   | (with_reducible exact ih1 _ _ _ _ _ _ _ _ _)
   | (with_reducible exact ih2 _ _ _ _ _ _ _ _ _ _)
   | (with_reducible exact ih3 _ _ _ _)
   | (with_reducible exact LeO.refl _)
   | (with_reducible exact LeO.none _)
   | (with_reducible refine LeO.ite ?_ ?_)
   | (with_reducible refine LeO.bind ?_ (fun _ => ?_))
   | exact ih0 _ _ _ _ _ _ _ _ _
   | exact ih1 _ _ _ _ _ _ _ _ _
   | exact ih2 _ _ _ _ _ _ _ _ _ _
   | exact ih3 _ _ _ _
   | exact LeO.none _
   | refine LeO.ite ?_ ?_
   | refine LeO.bind ?_ (fun _ => ?_)
  intro y0 y1 y2 y3
  unfold head_Write.l0
  repeat' first
  | (with_reducible exact ih0 _ _ _ _ _ _ _ _ _)
  | (with_reducible exact ih1 _ _ _ _ _ _ _ _ _)
  | (with_reducible exact ih2 _ _ _ _ _ _ _ _ _ _)
  | (with_reducible exact ih3 _ _ _ _)
  | (with_reducible exact LeO.refl _)
  | (with_reducible exact LeO.none _)
  | (with_reducible refine LeO.ite ?_ ?_)
  | (with_reducible refine LeO.bind ?_ (fun _ => ?_))
  | exact ih0 _ _ _ _ _ _ _ _ _
  | exact ih1 _ _ _ _ _ _ _ _ _
  | exact ih2 _ _ _ _ _ _ _ _ _ _
  | exact ih3 _ _ _ _
  | exact LeO.none _
  | refine LeO.ite ?_ ?_
  | refine LeO.bind ?_ (fun _ => ?_)
theorem head_Write.mono : ∀ a0 a1 a2 a3 a4 a5 a6 a7 k, LeO (head_Write.f k a0 a1 a2 a3 a4 a5 a6 a7) (head_Write.f (k + 1) a0 a1 a2 a3 a4 a5 a6 a7) := by
 intro a0 a1 a2 a3 a4 a5 a6 a7 k
 obtain ⟨ih0, ih1, ih2, ih3⟩ := head_Write.mono_l k
 unfold head_Write.f
 repeat' first
   | (with_reducible exact ih0 _ _ _ _ _ _ _ _ _)
   | (with_reducible exact ih1 _ _ _ _ _ _ _ _ _)
   | (with_reducible exact ih2 _ _ _ _ _ _ _ _ _ _)
   | (with_reducible exact ih3 _ _ _ _)
   | (with_reducible exact LeO.refl _)
   | (with_reducible exact LeO.none _)
   | (with_reducible refine LeO.ite ?_ ?_)
   | (with_reducible refine LeO.bind ?_ (fun _ => ?_))
   | exact ih0 _ _ _ _ _ _ _ _ _
   | exact ih1 _ _ _ _ _ _ _ _ _
   | exact ih2 _ _ _ _ _ _ _ _ _ _
   | exact ih3 _ _ _ _
   | exact LeO.none _
   | refine LeO.ite ?_ ?_
   | refine LeO.bind ?_ (fun _ => ?_)
set_option maxHeartbeats 8000000 in
set_option maxRecDepth 100000 in
theorem head_Write.calls (k : Nat) (a0_0 : Bool) (a0_1 : Bool) (a0_2 : Bool) (a0_3 : Int) (a0_4 : Int) (a0_5 : Int) (a0_6 : Int) (A0_7 : Option Addr) (c0_7 : Nat) (l0_7 : List Int) (r1 : List Int) (r2 : Int) (w : World) (hr0_7 : Kd.C (Kd.int .u32) w A0_7 l0_7.length l0_7) (hc0_7 : l0_7.length ≤ c0_7) (h : head_Write.f k a0_0 a0_1 a0_2 a0_3 a0_4 a0_5 a0_6 l0_7 = some (r1, r2)) :
  Calls Try.prog 36 #[.agg #[.bool a0_0, .bool a0_1, .bool a0_2, .int .i64 a0_3, .int .u16 a0_4, .int .u32 a0_5, .int .u32 a0_6, .slice A0_7 l0_7.length c0_7]] w fun e w' => ∃ v0_ : Value, e = .returned (.tuple #[v0_, .int .i64 r2]) ∧ Kd.R (Kd.int .u8) 5 w' w.heap.size (fun _ => True) v0_ r1 ∧ Below w.heap.size w w' := by
 have hu43 := Try.underlying43
 have HR0_7 := Aside0.mk hr0_7
 have HC0_7 := Aside0.mk hc0_7
 clear hr0_7 hc0_7
 have HB := Aside0.mk (Below.refl w.heap.size w)
 have H : ((head_Right.f a0_0 a0_1 a0_2 a0_3 a0_4 a0_5 a0_6 l0_7).bind fun t620 => (if t620 = true then (if a0_0 = true then (head_Write.j0 k (Go.bits .or .u8 ((Go.bits .or .i64 128 (l0_7.length : Int)) % 256) 32) a0_0 a0_1 a0_2 a0_3 a0_4 a0_5 a0_6 l0_7) else (head_Write.j0 k ((Go.bits .or .i64 128 (l0_7.length : Int)) % 256) a0_0 a0_1 a0_2 a0_3 a0_4 a0_5 a0_6 l0_7)) else (some (([] : List Int), 1)))) = some (r1, r2) := h
 clear h
 replace H := Option.bind_eq_some_iff.mp H
 obtain ⟨t620, A20, H⟩ := H
 replace H : (if t620 = true then (if a0_0 = true then (head_Write.j0 k (Go.bits .or .u8 ((Go.bits .or .i64 128 (l0_7.length : Int)) % 256) 32) a0_0 a0_1 a0_2 a0_3 a0_4 a0_5 a0_6 l0_7) else (head_Write.j0 k ((Go.bits .or .i64 128 (l0_7.length : Int)) % 256) a0_0 a0_1 a0_2 a0_3 a0_4 a0_5 a0_6 l0_7)) else (some (([] : List Int), 1))) = some (r1, r2) := H
 have A2 := Aside0.mk A20
 clear A20
 by_cases c3 : t620 = true
 ·subst c3
  have H1 : (if a0_0 = true then (head_Write.j0 k (Go.bits .or .u8 ((Go.bits .or .i64 128 (l0_7.length : Int)) % 256) 32) a0_0 a0_1 a0_2 a0_3 a0_4 a0_5 a0_6 l0_7) else (head_Write.j0 k ((Go.bits .or .i64 128 (l0_7.length : Int)) % 256) a0_0 a0_1 a0_2 a0_3 a0_4 a0_5 a0_6 l0_7)) = some (r1, r2) := by rw [if_pos rfl] at H; exact H
  clear H
  have H := H1
  clear H1
  have HC4 := Aside0.mk H
  clear H
  go_enter Try.func36, Try.ntmps36
  go_upto_if 18 with (first | ((with_reducible refine gate_dst (N := 1) rfl ?_); refine box_event ?hg (N := 1) ?hd (cs := #[.bool a0_0, .bool a0_1, .bool a0_2, .int .i64 a0_3, .int .u16 a0_4, .int .u32 a0_5, .int .u32 a0_6, .slice A0_7 l0_7.length c0_7]) (t := 43) ?hr ?_; (case hd => rfl); (case hg => rfl); (case hr => first | (go_simp; done) | (go_simp; rfl)); intro gb619 hg w5 hbox hb; have n0_ := bstE HB hb; have BK619 := Aside0.mk (hbox); have GW619 := geE hg HB; have GE619 := geE hg HB; clear HB; have HB := n0_; clear n0_; clear hb hbox hg; obtain ⟨Z6_0, Z6_1, Z6_2, Z6_3, Z6_4, Z6_5, Z6_6, Z6_7, Y6_0, Y6_1, Y6_2, Y6_3, Y6_4, Y6_5, Y6_6, Y6_7⟩ := bc8 BK619.out) | ((with_reducible refine gate_callee (f := 52) rfl ?_); refine goesL_ (some 10) rfl rfl Try.func52 (by kernel_rfl) rfl #[.agg #[.bool a0_0, .bool a0_1, .bool a0_2, .int .i64 a0_3, .int .u16 a0_4, .int .u32 a0_5, .int .u32 a0_6, .slice A0_7 l0_7.length c0_7]] rfl (by (try simp only [List.map_toArray, List.map_cons, List.map_nil]); first | done | rfl | (simp only [List.length_drop, List.length_take]; rfl)) ?_; (with_reducible refine (head_Right.calls a0_0 a0_1 a0_2 a0_3 a0_4 a0_5 a0_6 _ _ l0_7 true _ ?side1 ?side2 A2.out).mono ?_); (case side1 => exact cbE HR0_7 HB); (case side2 => exact HC0_7.out); rintro e w7 ⟨rfl, hb⟩; refine ⟨_, rfl, ?_⟩; replace BK619 := bbE BK619 hb; replace HB := bstE HB hb; (try clear hb); (try clear hb2); (try clear hk); (try clear hi); obtain ⟨Z8_0, Z8_1, Z8_2, Z8_3, Z8_4, Z8_5, Z8_6, Z8_7, Y8_0, Y8_1, Y8_2, Y8_3, Y8_4, Y8_5, Y8_6, Y8_7⟩ := bc8 BK619.out))
  (try simp only [Act.put, List.setIfInBounds_toArray, List.set_cons_zero, List.set_cons_succ])
  go_cut [4] (fun v4 wc => ∃ (kq : Nat) (x4_3 : Int), v4 = .int .u8 x4_3 ∧ Aside0 (head_Write.j0 kq x4_3 a0_0 a0_1 a0_2 a0_3 a0_4 a0_5 a0_6 l0_7 = some (r1, r2)) ∧ Aside0 (kq ≤ k) ∧ Aside0 (wc.heap[gb619]? = some (.cells #[.bool a0_0, .bool a0_1, .bool a0_2, .int .i64 a0_3, .int .u16 a0_4, .int .u32 a0_5, .int .u32 a0_6, (.slice A0_7 l0_7.length c0_7)] 43 (0, 0))) ∧ Aside0 (Below w.heap.size w wc))
  case first =>
   have H := HC4.out
   clear HC4
   by_cases c9 : a0_0 = true
   ·subst c9
    have H1 : (head_Write.j0 k (Go.bits .or .u8 ((Go.bits .or .i64 128 (l0_7.length : Int)) % 256) 32) true a0_1 a0_2 a0_3 a0_4 a0_5 a0_6 l0_7) = some (r1, r2) := by rw [if_pos rfl] at H; exact H
    clear H
    have H := H1
    clear H1
    have H' := Aside0.mk H
    clear H
    go_wp2
    go_meet
    case rel => exact ⟨_, (Go.bits .or .u8 ((Go.bits .or .i64 128 (l0_7.length : Int)) % 256) 32), (by first | rfl | (simp; done) | (simp [*]; done)), H', ⟨by first | omega | exact Nat.le_refl _⟩, ⟨by (with_reducible repeat (first | refine blk_drewN ?_ _ | refine blk_drew ?_ | refine blk_alloc ?_ _)); exact BK619.out⟩, ⟨by repeat (first | (with_reducible first | exact HB.out | apply below_alloc | apply pw_below_drewN | apply below_drew1 | refine below_set ?_ GE619.out) | exact HB.out)⟩⟩
   replace c9 := Bool.eq_false_iff.mpr c9
   subst c9
   have H1 : (head_Write.j0 k ((Go.bits .or .i64 128 (l0_7.length : Int)) % 256) false a0_1 a0_2 a0_3 a0_4 a0_5 a0_6 l0_7) = some (r1, r2) := by rw [if_neg (show ¬ (false = true) by decide)] at H; exact H
   clear H
   have H := H1
   clear H1
   have H' := Aside0.mk H
   clear H
   go_wp2
   go_meet
   case rel => exact ⟨_, ((Go.bits .or .i64 128 (l0_7.length : Int)) % 256), (by first | rfl | (simp; done) | (simp [*]; done)), H', ⟨by first | omega | exact Nat.le_refl _⟩, ⟨by (with_reducible repeat (first | refine blk_drewN ?_ _ | refine blk_drew ?_ | refine blk_alloc ?_ _)); exact BK619.out⟩, ⟨by repeat (first | (with_reducible first | exact HB.out | apply below_alloc | apply pw_below_drewN | apply below_drew1 | refine below_set ?_ GE619.out) | exact HB.out)⟩⟩
  case rest =>
   clear HC4
   try clear p2
   try clear c3
   try clear c5
   try clear c9
   try clear Z6_0 Z6_1 Z6_2 Z6_3 Z6_4 Z6_5 Z6_6 Z6_7
   try clear Z8_0 Z8_1 Z8_2 Z8_3 Z8_4 Z8_5 Z8_6 Z8_7
   try clear Y6_0 Y6_1 Y6_2 Y6_3 Y6_4 Y6_5 Y6_6 Y6_7
   try clear Y8_0 Y8_1 Y8_2 Y8_3 Y8_4 Y8_5 Y8_6 Y8_7
   obtain ⟨kq, x4_3, rfl, HA, HJ3, BK619, HB⟩ := hcut
   cases kq with
   | zero => exact absurd HA.out (by simp [head_Write.j0])
   | succ kj3 =>
    have H := HA.out
    clear HA
    simp only [head_Write.j0] at H
    have HC10 := Aside0.mk H
    clear H
    obtain ⟨Z11_0, Z11_1, Z11_2, Z11_3, Z11_4, Z11_5, Z11_6, Z11_7, Y11_0, Y11_1, Y11_2, Y11_3, Y11_4, Y11_5, Y11_6, Y11_7⟩ := bc8 BK619.out
    go_upto_if 22 with (fail)
    go_cut [4] (fun v4 wc => ∃ (kq : Nat) (x4_9 : Int), v4 = .int .u8 x4_9 ∧ Aside0 (head_Write.j1 kq x4_9 a0_0 a0_1 a0_2 a0_3 a0_4 a0_5 a0_6 l0_7 = some (r1, r2)) ∧ Aside0 (kq ≤ kj3) ∧ Aside0 (wc.heap[gb619]? = some (.cells #[.bool a0_0, .bool a0_1, .bool a0_2, .int .i64 a0_3, .int .u16 a0_4, .int .u32 a0_5, .int .u32 a0_6, (.slice A0_7 l0_7.length c0_7)] 43 (0, 0))) ∧ Aside0 (Below w.heap.size w wc))
    case first =>
     have H := HC10.out
     clear HC10
     by_cases c12 : a0_1 = true
     ·subst c12
      have H1 : (head_Write.j1 kj3 (Go.bits .or .u8 x4_3 16) a0_0 true a0_2 a0_3 a0_4 a0_5 a0_6 l0_7) = some (r1, r2) := by rw [if_pos rfl] at H; exact H
      clear H
      have H := H1
      clear H1
      have H' := Aside0.mk H
      clear H
      go_wp2
      go_meet
      case rel => exact ⟨_, (Go.bits .or .u8 x4_3 16), (by first | rfl | (simp; done) | (simp [*]; done)), H', ⟨by have := HJ3.out; first | omega | exact Nat.le_refl _⟩, ⟨by (with_reducible repeat (first | refine blk_drewN ?_ _ | refine blk_drew ?_ | refine blk_alloc ?_ _)); exact BK619.out⟩, ⟨by repeat (first | (with_reducible first | exact HB.out | apply below_alloc | apply pw_below_drewN | apply below_drew1 | refine below_set ?_ GE619.out) | exact HB.out)⟩⟩
     replace c12 := Bool.eq_false_iff.mpr c12
     subst c12
     have H1 : (head_Write.j1 kj3 x4_3 a0_0 false a0_2 a0_3 a0_4 a0_5 a0_6 l0_7) = some (r1, r2) := by rw [if_neg (show ¬ (false = true) by decide)] at H; exact H
     clear H
     have H := H1
     clear H1
     have H' := Aside0.mk H
     clear H
     go_wp2
     go_meet
     case rel => exact ⟨_, (x4_3), (by first | rfl | (simp; done) | (simp [*]; done)), H', ⟨by have := HJ3.out; first | omega | exact Nat.le_refl _⟩, ⟨by (with_reducible repeat (first | refine blk_drewN ?_ _ | refine blk_drew ?_ | refine blk_alloc ?_ _)); exact BK619.out⟩, ⟨by repeat (first | (with_reducible first | exact HB.out | apply below_alloc | apply pw_below_drewN | apply below_drew1 | refine below_set ?_ GE619.out) | exact HB.out)⟩⟩
    case rest =>
     clear HC10
     try clear c1
     try clear p2
     try clear c3
     try clear c5
     try clear c9
     try clear c12
     try clear Z11_0 Z11_1 Z11_2 Z11_3 Z11_4 Z11_5 Z11_6 Z11_7
     try clear Z6_0 Z6_1 Z6_2 Z6_3 Z6_4 Z6_5 Z6_6 Z6_7
     try clear Z8_0 Z8_1 Z8_2 Z8_3 Z8_4 Z8_5 Z8_6 Z8_7
     try clear Y11_0 Y11_1 Y11_2 Y11_3 Y11_4 Y11_5 Y11_6 Y11_7
     try clear Y6_0 Y6_1 Y6_2 Y6_3 Y6_4 Y6_5 Y6_6 Y6_7
     try clear Y8_0 Y8_1 Y8_2 Y8_3 Y8_4 Y8_5 Y8_6 Y8_7
     try clear p2
     obtain ⟨kq, x4_9, rfl, HA, HJ9, BK619, HB⟩ := hcut
     cases kq with
     | zero => exact absurd HA.out (by simp [head_Write.j1])
     | succ kj9 =>
      have H := HA.out
      clear HA
      simp only [head_Write.j1] at H
      have HC13 := Aside0.mk H
      clear H
      obtain ⟨Z14_0, Z14_1, Z14_2, Z14_3, Z14_4, Z14_5, Z14_6, Z14_7, Y14_0, Y14_1, Y14_2, Y14_3, Y14_4, Y14_5, Y14_6, Y14_7⟩ := bc8 BK619.out
      go_upto_if 29 with (fail)
      go_cut [5] (fun v5 wc => ∃ (kq : Nat) (x5_12 : Int), v5 = .int .u8 x5_12 ∧ Aside0 (head_Write.j2 kq x4_9 x5_12 a0_0 a0_1 a0_2 a0_3 a0_4 a0_5 a0_6 l0_7 = some (r1, r2)) ∧ Aside0 (kq ≤ kj9) ∧ Aside0 (wc.heap[gb619]? = some (.cells #[.bool a0_0, .bool a0_1, .bool a0_2, .int .i64 a0_3, .int .u16 a0_4, .int .u32 a0_5, .int .u32 a0_6, (.slice A0_7 l0_7.length c0_7)] 43 (0, 0))) ∧ Aside0 (Below w.heap.size w wc))
      case first =>
       have H := HC13.out
       clear HC13
       by_cases c15 : a0_2 = true
       ·subst c15
        have H1 : (head_Write.j2 kj9 x4_9 (Go.bits .or .u8 ((a0_3) % 256) 128) a0_0 a0_1 true a0_3 a0_4 a0_5 a0_6 l0_7) = some (r1, r2) := by rw [if_pos rfl] at H; exact H
        clear H
        have H := H1
        clear H1
        have H' := Aside0.mk H
        clear H
        go_wp2
        go_meet
        case rel => exact ⟨_, (Go.bits .or .u8 ((a0_3) % 256) 128), (by first | rfl | (simp; done) | (simp [*]; done)), H', ⟨by have := HJ3.out; have := HJ9.out; first | omega | exact Nat.le_refl _⟩, ⟨by (with_reducible repeat (first | refine blk_drewN ?_ _ | refine blk_drew ?_ | refine blk_alloc ?_ _)); exact BK619.out⟩, ⟨by repeat (first | (with_reducible first | exact HB.out | apply below_alloc | apply pw_below_drewN | apply below_drew1 | refine below_set ?_ GE619.out) | exact HB.out)⟩⟩
       replace c15 := Bool.eq_false_iff.mpr c15
       subst c15
       have H1 : (head_Write.j2 kj9 x4_9 ((a0_3) % 256) a0_0 a0_1 false a0_3 a0_4 a0_5 a0_6 l0_7) = some (r1, r2) := by rw [if_neg (show ¬ (false = true) by decide)] at H; exact H
       clear H
       have H := H1
       clear H1
       have H' := Aside0.mk H
       clear H
       go_wp2
       go_meet
       case rel => exact ⟨_, ((a0_3) % 256), (by first | rfl | (simp; done) | (simp [*]; done)), H', ⟨by have := HJ3.out; have := HJ9.out; first | omega | exact Nat.le_refl _⟩, ⟨by (with_reducible repeat (first | refine blk_drewN ?_ _ | refine blk_drew ?_ | refine blk_alloc ?_ _)); exact BK619.out⟩, ⟨by repeat (first | (with_reducible first | exact HB.out | apply below_alloc | apply pw_below_drewN | apply below_drew1 | refine below_set ?_ GE619.out) | exact HB.out)⟩⟩
      case rest =>
       clear HC13
       try clear c1
       try clear p2
       try clear c3
       try clear c5
       try clear c9
       try clear c12
       try clear c15
       try clear Z11_0 Z11_1 Z11_2 Z11_3 Z11_4 Z11_5 Z11_6 Z11_7
       try clear Z14_0 Z14_1 Z14_2 Z14_3 Z14_4 Z14_5 Z14_6 Z14_7
       try clear Z6_0 Z6_1 Z6_2 Z6_3 Z6_4 Z6_5 Z6_6 Z6_7
       try clear Z8_0 Z8_1 Z8_2 Z8_3 Z8_4 Z8_5 Z8_6 Z8_7
       try clear Y11_0 Y11_1 Y11_2 Y11_3 Y11_4 Y11_5 Y11_6 Y11_7
       try clear Y14_0 Y14_1 Y14_2 Y14_3 Y14_4 Y14_5 Y14_6 Y14_7
       try clear Y6_0 Y6_1 Y6_2 Y6_3 Y6_4 Y6_5 Y6_6 Y6_7
       try clear Y8_0 Y8_1 Y8_2 Y8_3 Y8_4 Y8_5 Y8_6 Y8_7
       try clear p2
       obtain ⟨kq, x5_12, rfl, HA, HJ12, BK619, HB⟩ := hcut
       cases kq with
       | zero => exact absurd HA.out (by simp [head_Write.j2])
       | succ kj12 =>
        have H := HA.out
        clear HA
        simp only [head_Write.j2] at H
        obtain ⟨ji16, hji16⟩ : ∃ j_ : Int, (wrap64 (12 + (wrap64 (4 * (l0_7.length : Int))))) = j_ := ⟨_, rfl⟩
        replace H : (if 0 ≤ (ji16) then (if (ji16 : Int).toNat ≤ 281474976710656 then ((some (([] : List Int) : List Int)).bind fun y621 => ((some (([x4_9, x5_12, (a0_4 / 256) % 256, (a0_4) % 256] : List Int) : List Int)).bind fun y624 => (if y621.length + y624.length < 140737488355328 then ((head_word.f (y621 ++ y624) a0_5).bind fun t630 => ((head_word.f t630 a0_6).bind fun t633 => (head_Write.l0 kj12 t633 l0_7 (l0_7.length : Int) 0))) else (none)))) else (none)) else (none)) = some (r1, r2) := by first | (rw [hji16] at H; exact H) | (simp only [hji16] at H ⊢; exact H)
        have hji16w : (IntKind.i64.wrap (12 + (wrap64 (4 * (l0_7.length : Int))))) = ji16 := (i64_w _).trans hji16
        by_cases c17 : 0 ≤ (ji16)
        ·rw [if_pos c17] at H
         have c17b0 := eq_true c17
         have c17b1 : decide (0 ≤ (ji16)) = true := decide_eq_true c17
         clear c17
         by_cases c18 : (ji16 : Int).toNat ≤ 281474976710656
         ·rw [if_pos c18] at H
          have c18b0 := eq_true c18
          have c18b1 : decide ((ji16 : Int).toNat ≤ 281474976710656) = true := decide_eq_true c18
          clear c18
          obtain ⟨y621, hy621⟩ : ∃ y_ : List Int, y_ = (([] : List Int)) := ⟨_, rfl⟩
          replace H : ((some (([x4_9, x5_12, (a0_4 / 256) % 256, (a0_4) % 256] : List Int) : List Int)).bind fun y624 => (if y621.length + y624.length < 140737488355328 then ((head_word.f (y621 ++ y624) a0_5).bind fun t630 => ((head_word.f t630 a0_6).bind fun t633 => (head_Write.l0 kj12 t633 l0_7 (l0_7.length : Int) 0))) else (none))) = some (r1, r2) := by first | (rw [hy621]; with_reducible exact H) | (have H2_ := (Option.bind_some _ _).symm.trans H; rw [hy621]; with_reducible exact H2_) | (have H2_ := (Option.bind_some _ _).symm.trans H; with_reducible exact H2_) | with_reducible exact H | (rw [hy621]; exact H) | exact H
          have Ny621 := Aside0.mk hy621
          clear hy621
          obtain ⟨y624, hy624⟩ : ∃ y_ : List Int, y_ = (([x4_9, x5_12, (a0_4 / 256) % 256, (a0_4) % 256] : List Int)) := ⟨_, rfl⟩
          replace H : (if y621.length + y624.length < 140737488355328 then ((head_word.f (y621 ++ y624) a0_5).bind fun t630 => ((head_word.f t630 a0_6).bind fun t633 => (head_Write.l0 kj12 t633 l0_7 (l0_7.length : Int) 0))) else (none)) = some (r1, r2) := by first | (rw [hy624]; with_reducible exact H) | (have H2_ := (Option.bind_some _ _).symm.trans H; rw [hy624]; with_reducible exact H2_) | (have H2_ := (Option.bind_some _ _).symm.trans H; with_reducible exact H2_) | with_reducible exact H | (rw [hy624]; exact H) | exact H
          have Ny624 := Aside0.mk hy624
          clear hy624
          by_cases c19 : y621.length + y624.length < 140737488355328
          ·rw [if_pos c19] at H
           have LMc19 := Aside0.mk c19
           clear c19
           obtain ⟨y627, hy627⟩ : ∃ y_ : List Int, y_ = (y621 ++ y624) := ⟨_, rfl⟩
           replace H : ((head_word.f y627 a0_5).bind fun t630 => ((head_word.f t630 a0_6).bind fun t633 => (head_Write.l0 kj12 t633 l0_7 (l0_7.length : Int) 0))) = some (r1, r2) := by first | (rw [hy627]; with_reducible exact H) | (have H2_ := (Option.bind_some _ _).symm.trans H; rw [hy627]; with_reducible exact H2_) | (have H2_ := (Option.bind_some _ _).symm.trans H; with_reducible exact H2_) | with_reducible exact H | (rw [hy627]; exact H) | exact H
           have Ny627 := Aside0.mk hy627
           clear hy627
           replace H := Option.bind_eq_some_iff.mp H
           obtain ⟨t630, A200, H⟩ := H
           replace H : ((head_word.f t630 a0_6).bind fun t633 => (head_Write.l0 kj12 t633 l0_7 (l0_7.length : Int) 0)) = some (r1, r2) := H
           have A20 := Aside0.mk A200
           clear A200
           replace H := Option.bind_eq_some_iff.mp H
           obtain ⟨t633, A210, H⟩ := H
           replace H : (head_Write.l0 kj12 t633 l0_7 (l0_7.length : Int) 0) = some (r1, r2) := H
           have A21 := Aside0.mk A210
           clear A210
           have H' := Aside0.mk H
           clear H
           obtain ⟨Z22_0, Z22_1, Z22_2, Z22_3, Z22_4, Z22_5, Z22_6, Z22_7, Y22_0, Y22_1, Y22_2, Y22_3, Y22_4, Y22_5, Y22_6, Y22_7⟩ := bc8 BK619.out
           go_wp2_with (first | ((with_reducible refine gate_dst (N := 37) rfl ?_); refine Kd.R_makecap (Kd.int .u8) _ 5 rfl (N := 37) rfl 22 _ _ rfl ji16 rfl rfl Try.underlying22 (.int .u8 0) 1 info5 (by omega) (ok := fun _ => True) trivial (oT (by first | (with_reducible assumption) | assumption)) (Nat.le_trans (Nat.mul_le_mul_right _ (of_decide_eq_true (by first | (with_reducible assumption) | assumption) : ji16.toNat ≤ 281474976710656)) (by omega)) (Below.refl _ _) (Nat.le_refl _) ?_; intro v622 w23 ho24 hb hg_ hnew_; clear hg_ hnew_; (first | rw [← Ny621.out] at ho24 | (simp only [Int.reduceToNat] at ho24; rw [← Ny621.out] at ho24)); have HO623 := Aside0.mk (Kd.R_lower ho24 (below_size (pB HB))); replace BK619 := bbE BK619 hb; replace HB := bstE HB hb; clear hb ho24; obtain ⟨Z25_0, Z25_1, Z25_2, Z25_3, Z25_4, Z25_5, Z25_6, Z25_7, Y25_0, Y25_1, Y25_2, Y25_3, Y25_4, Y25_5, Y25_6, Y25_7⟩ := bc8 BK619.out) | ((with_reducible refine gate_dst (N := 48) rfl ?_); refine Kd.R_lit (Kd.int .u8) _ 5 ?hg (N := 48) ?hd (xs := ([x4_9, x5_12, (a0_4 / 256) % 256, (a0_4) % 256] : List Int)) (inner := [.int .u8 x4_9, .int .u8 x5_12, .int .u8 ((a0_4 / 256) % 256), .int .u8 ((a0_4) % 256)]) (ok := fun _ => True) (okp := fun _ => True) ?hr ?hp (fun _ hk => hk) trivial (Below.refl _ _) (Nat.le_refl _) (by simp) ?_; (case hd => rfl); (case hg => rfl); (case hr => first | (go_simp; done) | (go_simp; rfl)); (case hp => exact (Reps.one (show Kd.M (Kd.int .u8) _ _ _ x4_9 [.int .u8 x4_9] from rfl) (Reps.one (show Kd.M (Kd.int .u8) _ _ _ x5_12 [.int .u8 x5_12] from rfl) (Reps.one (show Kd.M (Kd.int .u8) _ _ _ ((a0_4 / 256) % 256) [.int .u8 ((a0_4 / 256) % 256)] from rfl) (Reps.one (show Kd.M (Kd.int .u8) _ _ _ ((a0_4) % 256) [.int .u8 ((a0_4) % 256)] from rfl) (Reps.none _ _)))))); intro v625 w26 ho27 hb hg_ hnew_; clear hg_ hnew_; (first | rw [← Ny624.out] at ho27 | (simp only [Int.reduceToNat] at ho27; rw [← Ny624.out] at ho27)); have n0_ := Aside0.mk (Kd.R_elder' (pR HO623) (Kd.R_base ho27) hb); have HO626 := Aside0.mk (Kd.R_lower (Kd.R_new' ho27 (Kd.R_lt (pR HO623))) (below_size (pB HB))); replace BK619 := bbE BK619 hb; replace HB := bstE HB hb; clear HO623; have HO623 := n0_; clear n0_; clear hb ho27; obtain ⟨Ao29, co29, eo29⟩ := Kd.R_slice HO626.out; subst eo29) | ((with_reducible refine gate_builtin (b := .append) (xs := #[.tmp 38, .tmp 48]) rfl ?_); at_builtin; refine Kd.R_append_rows (Kd.int .u8) (w0 := w) w.heap.size rfl (.tmp 38) (.tmp 48) 22 5 (.int .u8 0) 1 rfl Try.underlying22 info5 rfl (by decide) (by omega) v622 y621 y624 _ _ _ (fun k_ => some k_ ≠ (.slice Ao29 y624.length co29 : Value).ownBlock) (fun _ => False) rfl rfl ?aO ?aR (fun _ _ h => h) (fun _ h => h.elim) ?aF ?aB ?aS ?aL ?_; (case aR => exact cE (Kd.R_reads' HO626.out).2.2); (case aB => exact (pB HB)); (case aF => exact (fun k_ hk => Kd.fresh' (Kd.R_lt (pR HO626)) k_ hk)); (case aO => exact (by (with_reducible repeat (first | apply Kd.R_alloc | apply Kd.R_drewN | apply Kd.R_drew)); exact Kd.R_mono HO623.out (fun _ hk => hk.2))); (case aS => exact (below_size (pB HB))); (case aL => have := LMc19.out; omega); intro v628 w28 ho hb hg hat; rw [← Ny627.out] at ho; replace BK619 := Aside0.mk (blk_grown (g := gb619) (o := .cells #[.bool a0_0, .bool a0_1, .bool a0_2, .int .i64 a0_3, .int .u16 a0_4, .int .u32 a0_5, .int .u32 a0_6, .slice A0_7 l0_7.length c0_7] 43 (0, 0)) (pk BK619) hg (Kd.R_ne HO623.out BK619.out (by decide))); replace HO626 := Aside0.mk (Kd.R_after (ok := (fun _ => True)) (pR HO626) hg hat); replace HB := Aside0.mk (hb); have HO629 := Aside0.mk (ho); clear HO623; clear ho hb hg hat; obtain ⟨Z30_0, Z30_1, Z30_2, Z30_3, Z30_4, Z30_5, Z30_6, Z30_7, Y30_0, Y30_1, Y30_2, Y30_3, Y30_4, Y30_5, Y30_6, Y30_7⟩ := bc8 BK619.out; obtain ⟨Ao31, co31, eo31⟩ := Kd.R_slice HO629.out; subst eo31) | ((with_reducible refine gate_callee (f := 53) rfl ?_); refine goesL_ (some 53) rfl rfl Try.func53 (by kernel_rfl) rfl #[.slice Ao31 y627.length co31, .int .u32 a0_5] rfl (by (try simp only [List.map_toArray, List.map_cons, List.map_nil]); first | done | rfl | (simp only [List.length_drop, List.length_take]; rfl)) ?_; (with_reducible refine (head_word.calls (fun k_ => some k_ = (.slice Ao31 y627.length co31 : Value).ownBlock) (.slice Ao31 y627.length co31) y627 a0_5 t630 w _ ?side1 ?side2 A20.out).mono ?_); (case side1 => repeat (first | (with_reducible first | exact HB.out | apply below_alloc | apply pw_below_drewN | apply below_drew1 | refine below_set ?_ GE619.out) | exact HB.out)); (case side2 => exact Kd.R_tight rfl HO629.out); rintro e w32 ⟨v631, rfl, ho0, hb, hkp⟩; refine ⟨_, rfl, ?_⟩; replace BK619 := Aside0.mk (blk_kept (pk BK619) hkp (fun hs_ => (fun e_ => (Kd.R_ne HO629.out BK619.out (by decide)) e_) hs_)); have n1_ := Aside0.mk (Kd.R_mono (ok' := fun k_ => some k_ ≠ (v631 : Value).ownBlock) (Kd.R_keptB (HO626.out) hkp (fun k_ hk_ hs_ => (hk_.2) hs_)) (fun k_ hk_ => fun e_ => Or.elim (ho0.1 k_ e_.symm) (fun hs_ => hk_.2.1 hs_) (fun hn_ => Nat.not_le.2 hk_.2.2 hn_))); have HO632 := Aside0.mk (Kd.R_mono (ok' := fun k_ => some k_ ≠ (.slice Ao29 y624.length co29 : Value).ownBlock) ho0 (fun k_ hk_ => Or.elim hk_ (fun hs_ => fun e_ => (((HO626.out).1 k_ e_.symm).2) hs_) (fun hn_ => (Kd.fresh' (Kd.R_lt (pR HO626)) k_ hn_)))); replace HB := Aside0.mk (hb); clear HO626; clear HO629; have HO626 := n1_; clear n1_; (try clear hb); (try clear hkp); (try clear ho0); obtain ⟨Z33_0, Z33_1, Z33_2, Z33_3, Z33_4, Z33_5, Z33_6, Z33_7, Y33_0, Y33_1, Y33_2, Y33_3, Y33_4, Y33_5, Y33_6, Y33_7⟩ := bc8 BK619.out; obtain ⟨Ao34, co34, eo34⟩ := Kd.R_slice HO632.out; subst eo34) | ((with_reducible refine gate_callee (f := 53) rfl ?_); refine goesL_ (some 57) rfl rfl Try.func53 (by kernel_rfl) rfl #[.slice Ao34 t630.length co34, .int .u32 a0_6] rfl (by (try simp only [List.map_toArray, List.map_cons, List.map_nil]); first | done | rfl | (simp only [List.length_drop, List.length_take]; rfl)) ?_; (with_reducible refine (head_word.calls (fun k_ => some k_ = (.slice Ao34 t630.length co34 : Value).ownBlock) (.slice Ao34 t630.length co34) t630 a0_6 t633 w _ ?side1 ?side2 A21.out).mono ?_); (case side1 => repeat (first | (with_reducible first | exact HB.out | apply below_alloc | apply pw_below_drewN | apply below_drew1 | refine below_set ?_ GE619.out) | exact HB.out)); (case side2 => exact Kd.R_tight rfl HO632.out); rintro e w35 ⟨v634, rfl, ho0, hb, hkp⟩; refine ⟨_, rfl, ?_⟩; replace BK619 := Aside0.mk (blk_kept (pk BK619) hkp (fun hs_ => (fun e_ => (Kd.R_ne HO632.out BK619.out (by decide)) e_) hs_)); have n1_ := Aside0.mk (Kd.R_mono (ok' := fun k_ => some k_ ≠ (v634 : Value).ownBlock) (Kd.R_keptB (HO626.out) hkp (fun k_ hk_ hs_ => (hk_) hs_)) (fun k_ hk_ => fun e_ => Or.elim (ho0.1 k_ e_.symm) (fun hs_ => hk_.2.1 hs_) (fun hn_ => Nat.not_le.2 hk_.2.2 hn_))); have HO635 := Aside0.mk (Kd.R_mono (ok' := fun k_ => some k_ ≠ (.slice Ao29 y624.length co29 : Value).ownBlock) ho0 (fun k_ hk_ => Or.elim hk_ (fun hs_ => fun e_ => (((HO626.out).1 k_ e_.symm)) hs_) (fun hn_ => (Kd.fresh' (Kd.R_lt (pR HO626)) k_ hn_)))); replace HB := Aside0.mk (hb); clear HO626; clear HO632; have HO626 := n1_; clear n1_; (try clear hb); (try clear hkp); (try clear ho0); obtain ⟨Z36_0, Z36_1, Z36_2, Z36_3, Z36_4, Z36_5, Z36_6, Z36_7, Y36_0, Y36_1, Y36_2, Y36_3, Y36_4, Y36_5, Y36_6, Y36_7⟩ := bc8 BK619.out))
           go_loopg [6, 61] kj12 (fun kq v6 v61 w' => ∃ (x6_4 : List Int) (x61_4 : Int), v61 = .int .i64 x61_4 ∧ Aside0 (head_Write.l0 kq x6_4 l0_7 (l0_7.length : Int) x61_4 = some (r1, r2)) ∧ Aside0 (kq ≤ kj12) ∧ Aside0 (Kd.R (Kd.int .u8) 5 w' w.heap.size (fun _ => True) v6 x6_4) ∧ Aside0 (w'.heap[gb619]? = some (.cells #[.bool a0_0, .bool a0_1, .bool a0_2, .int .i64 a0_3, .int .u16 a0_4, .int .u32 a0_5, .int .u32 a0_6, (.slice A0_7 l0_7.length c0_7)] 43 (0, 0))) ∧ Aside0 (Below w.heap.size w w'))
           case atStart => exact ⟨(t633), (0), (by first | rfl | (simp; done) | (simp [*]; done)), H', ⟨Nat.le_refl _⟩, ⟨by (with_reducible repeat (first | apply Kd.R_alloc | apply Kd.R_drewN | apply Kd.R_drew)); exact Kd.R_mono HO635.out (fun _ hk => trivial)⟩, ⟨by (with_reducible repeat (first | refine blk_drewN ?_ _ | refine blk_drew ?_ | refine blk_alloc ?_ _)); exact BK619.out⟩, ⟨by repeat (first | (with_reducible first | exact HB.out | apply below_alloc | apply pw_below_drewN | apply below_drew1 | refine below_set ?_ GE619.out) | exact HB.out)⟩⟩
           case round =>
            clear H'
            try clear c1
            try clear p2
            try clear c3
            try clear c5
            try clear p6
            try clear c9
            try clear c12
            try clear c15
            try clear c17
            try clear c17b0
            try clear c17b1
            try clear c18
            try clear c18b0
            try clear c18b1
            try clear c19
            try clear c36
            try clear Z11_0 Z11_1 Z11_2 Z11_3 Z11_4 Z11_5 Z11_6 Z11_7
            try clear Z14_0 Z14_1 Z14_2 Z14_3 Z14_4 Z14_5 Z14_6 Z14_7
            try clear Z22_0 Z22_1 Z22_2 Z22_3 Z22_4 Z22_5 Z22_6 Z22_7
            try clear Z25_0 Z25_1 Z25_2 Z25_3 Z25_4 Z25_5 Z25_6 Z25_7
            try clear Z30_0 Z30_1 Z30_2 Z30_3 Z30_4 Z30_5 Z30_6 Z30_7
            try clear Z33_0 Z33_1 Z33_2 Z33_3 Z33_4 Z33_5 Z33_6 Z33_7
            try clear Z36_0 Z36_1 Z36_2 Z36_3 Z36_4 Z36_5 Z36_6 Z36_7
            try clear Z6_0 Z6_1 Z6_2 Z6_3 Z6_4 Z6_5 Z6_6 Z6_7
            try clear Z8_0 Z8_1 Z8_2 Z8_3 Z8_4 Z8_5 Z8_6 Z8_7
            try clear Y11_0 Y11_1 Y11_2 Y11_3 Y11_4 Y11_5 Y11_6 Y11_7
            try clear Y14_0 Y14_1 Y14_2 Y14_3 Y14_4 Y14_5 Y14_6 Y14_7
            try clear Y22_0 Y22_1 Y22_2 Y22_3 Y22_4 Y22_5 Y22_6 Y22_7
            try clear Y25_0 Y25_1 Y25_2 Y25_3 Y25_4 Y25_5 Y25_6 Y25_7
            try clear Y30_0 Y30_1 Y30_2 Y30_3 Y30_4 Y30_5 Y30_6 Y30_7
            try clear Y33_0 Y33_1 Y33_2 Y33_3 Y33_4 Y33_5 Y33_6 Y33_7
            try clear Y36_0 Y36_1 Y36_2 Y36_3 Y36_4 Y36_5 Y36_6 Y36_7
            try clear Y6_0 Y6_1 Y6_2 Y6_3 Y6_4 Y6_5 Y6_6 Y6_7
            try clear Y8_0 Y8_1 Y8_2 Y8_3 Y8_4 Y8_5 Y8_6 Y8_7
            try clear p2
            obtain ⟨x6_4, x61_4, rfl, HA, HK4, HO_6, BK619, HB⟩ := hrel
            cases gk with
            | zero => exact absurd HA.out (by simp [head_Write.l0])
            | succ k4 =>
             have H := HA.out
             clear HA
             simp only [head_Write.l0] at H
             by_cases c37 : x61_4 < (l0_7.length : Int)
             ·rw [if_pos c37] at H
              have c37b0 : decide (x61_4 < (l0_7.length : Int)) = true := decide_eq_true c37
              clear c37
              by_cases c38 : 0 ≤ x61_4
              ·rw [if_pos c38] at H
               have c38b0 : decide (0 ≤ x61_4) = true := decide_eq_true c38
               clear c38
               by_cases c39 : x61_4 < (l0_7.length : Int)
               ·rw [if_pos c39] at H
                have c39b0 : decide (x61_4 < (l0_7.length : Int)) = true := decide_eq_true c39
                clear c39
                replace H := Option.bind_eq_some_iff.mp H
                obtain ⟨t637, A400, H⟩ := H
                replace H : (head_Write.l0 k4 t637 l0_7 (l0_7.length : Int) (wrap64 (x61_4 + 1))) = some (r1, r2) := H
                have A40 := Aside0.mk A400
                clear A400
                have H' := Aside0.mk H
                clear H
                have p636 : 0 ≤ (x61_4 : Int) := of_decide_eq_true (by first | (with_reducible assumption) | assumption)
                have q636 : x61_4 < (l0_7.length : Int) := of_decide_eq_true (by first | (with_reducible assumption) | assumption)
                obtain ⟨ad636, e636, hx636_0⟩ := Kd.at_int HR0_7.out x61_4 p636 q636
                cases e636
                replace hx636_0 := (HB.out.cell (World.block_lt_of_cell? w _ hx636_0)).trans hx636_0
                replace p636 := eq_true p636
                replace q636 := eq_true q636
                obtain ⟨Ao41, co41, eo41⟩ := Kd.R_slice HO_6.out
                subst eo41
                go_wp2_with (first | ((with_reducible refine gate_callee (f := 53) rfl ?_); refine goesL_ (some 67) rfl rfl Try.func53 (by kernel_rfl) rfl #[.slice Ao41 x6_4.length co41, .int .u32 (rd l0_7 x61_4)] rfl (by (try simp only [List.map_toArray, List.map_cons, List.map_nil]); first | done | rfl | (simp only [List.length_drop, List.length_take]; rfl)) ?_; (with_reducible refine (head_word.calls (fun k_ => some k_ = (.slice Ao41 x6_4.length co41 : Value).ownBlock) (.slice Ao41 x6_4.length co41) x6_4 (rd l0_7 x61_4) t637 w _ ?side1 ?side2 A40.out).mono ?_); (case side1 => repeat (first | (with_reducible first | exact HB.out | apply below_alloc | apply pw_below_drewN | apply below_drew1 | refine below_set ?_ GE619.out) | exact HB.out)); (case side2 => exact Kd.R_tight rfl HO_6.out); rintro e w42 ⟨v638, rfl, ho0, hb, hkp⟩; refine ⟨_, rfl, ?_⟩; replace BK619 := Aside0.mk (blk_kept (pk BK619) hkp (fun hs_ => (fun e_ => (Kd.R_ne HO_6.out BK619.out (by decide)) e_) hs_)); have HO639 := Aside0.mk (Kd.R_mono (ok' := fun k_ => True) ho0 (fun k_ hk_ => trivial)); replace HB := Aside0.mk (hb); clear HO_6; (try clear hb); (try clear hkp); (try clear ho0)))
                go_roundg k4
                case measure => have := HJ3.out; have := HJ9.out; have := HJ12.out; have := HK4.out; omega
                case rel => exact ⟨(t637), (wrap64 (x61_4 + 1)), (by first | rfl | (simp; done) | (simp [*]; done)), H', ⟨by have := HJ3.out; have := HJ9.out; have := HJ12.out; have := HK4.out; omega⟩, ⟨by (with_reducible repeat (first | apply Kd.R_alloc | apply Kd.R_drewN | apply Kd.R_drew)); exact HO639.out⟩, ⟨by (with_reducible repeat (first | refine blk_drewN ?_ _ | refine blk_drew ?_ | refine blk_alloc ?_ _)); exact BK619.out⟩, ⟨by repeat (first | (with_reducible first | exact HB.out | apply below_alloc | apply pw_below_drewN | apply below_drew1 | refine below_set ?_ GE619.out) | exact HB.out)⟩⟩
               rw [if_neg c39] at H
               exact absurd H (by simp)
              rw [if_neg c38] at H
              exact absurd H (by simp)
             rw [if_neg c37] at H
             have c37b0 : decide (x61_4 < (l0_7.length : Int)) = false := decide_eq_false c37
             clear c37
             simp only [Option.some.injEq, Prod.mk.injEq] at H
             obtain ⟨rfl, rfl⟩ := H
             go_wp2
             go_ret2
             exact ⟨_, by first | rfl | (simp [errW_none, errW_some] <;> rfl) | (simp only [← hji16]; first | rfl | (simp [errW_none, errW_some] <;> rfl)) | (simp [*, errW_none, errW_some] <;> rfl), by (with_reducible repeat (first | apply Kd.R_alloc | apply Kd.R_drewN | apply Kd.R_drew)); exact HO_6.out, by repeat (first | (with_reducible first | exact HB.out | apply below_alloc | apply pw_below_drewN | apply below_drew1 | refine below_set ?_ GE619.out) | exact HB.out)⟩
          rw [if_neg c19] at H
          exact absurd H (by simp)
         rw [if_neg c18] at H
         exact absurd H (by simp)
        rw [if_neg c17] at H
        exact absurd H (by simp)
 replace c3 := Bool.eq_false_iff.mpr c3
 subst c3
 have H1 : (some (([] : List Int), 1)) = some (r1, r2) := by rw [if_neg (show ¬ (false = true) by decide)] at H; exact H
 clear H
 have H := H1
 clear H1
 simp only [Option.some.injEq, Prod.mk.injEq] at H
 obtain ⟨rfl, rfl⟩ := H
 go_enter Try.func36, Try.ntmps36
 go_wp2_with (first | ((with_reducible refine gate_dst (N := 1) rfl ?_); refine box_event ?hg (N := 1) ?hd (cs := #[.bool a0_0, .bool a0_1, .bool a0_2, .int .i64 a0_3, .int .u16 a0_4, .int .u32 a0_5, .int .u32 a0_6, .slice A0_7 l0_7.length c0_7]) (t := 43) ?hr ?_; (case hd => rfl); (case hg => rfl); (case hr => first | (go_simp; done) | (go_simp; rfl)); intro gb619 hg w43 hbox hb; have n0_ := bstE HB hb; have BK619 := Aside0.mk (hbox); have GW619 := geE hg HB; have GE619 := geE hg HB; clear HB; have HB := n0_; clear n0_; clear hb hbox hg; obtain ⟨Z44_0, Z44_1, Z44_2, Z44_3, Z44_4, Z44_5, Z44_6, Z44_7, Y44_0, Y44_1, Y44_2, Y44_3, Y44_4, Y44_5, Y44_6, Y44_7⟩ := bc8 BK619.out) | ((with_reducible refine gate_callee (f := 52) rfl ?_); refine goesL_ (some 10) rfl rfl Try.func52 (by kernel_rfl) rfl #[.agg #[.bool a0_0, .bool a0_1, .bool a0_2, .int .i64 a0_3, .int .u16 a0_4, .int .u32 a0_5, .int .u32 a0_6, .slice A0_7 l0_7.length c0_7]] rfl (by (try simp only [List.map_toArray, List.map_cons, List.map_nil]); first | done | rfl | (simp only [List.length_drop, List.length_take]; rfl)) ?_; (with_reducible refine (head_Right.calls a0_0 a0_1 a0_2 a0_3 a0_4 a0_5 a0_6 _ _ l0_7 false _ ?side1 ?side2 A2.out).mono ?_); (case side1 => exact cbE HR0_7 HB); (case side2 => exact HC0_7.out); rintro e w45 ⟨rfl, hb⟩; refine ⟨_, rfl, ?_⟩; replace BK619 := bbE BK619 hb; replace HB := bstE HB hb; (try clear hb); (try clear hb2); (try clear hk); (try clear hi)))
 go_ret2
 exact ⟨_, by first | rfl | (simp [errW_none, errW_some] <;> rfl) | (simp [*, errW_none, errW_some] <;> rfl), by first | exact Kd.R_nil _ _ _ _ _ | exact Kd.N_nil _ _ _ _ _ | exact Kd.V_nil _ _ _ _ _ | exact Kd.Q_nil _ _ _ _ _ | exact Kd.S_nil _ _ _ _ _, by repeat (first | (with_reducible first | exact HB.out | apply below_alloc | apply pw_below_drewN | apply below_drew1 | refine below_set ?_ GE619.out) | exact HB.out)⟩
def pad_Add.f (l0 : List Int) (a1 : Int) : Option (List Int × Int) := if a1 < 1 then (some (([] : List Int), 1)) else (if a1 > 255 then (some (([] : List Int), 1)) else (if 0 ≤ (wrap64 ((l0.length : Int) + a1)) then (if (wrap64 ((l0.length : Int) + a1) : Int).toNat ≤ 281474976710656 then ((some (List.replicate (wrap64 ((l0.length : Int) + a1) : Int).toNat 0 : List Int)).bind fun y640 => (if 0 ≤ (wrap64 ((y640.length : Int) - 1)) then (if (wrap64 ((y640.length : Int) - 1)) < (y640.length : Int) then (some (((l0.take (min l0.length y640.length) ++ y640.drop (min l0.length y640.length)).set ((wrap64 ((y640.length : Int) - 1)) : Int).toNat ((a1) % 256)), 0)) else (none)) else (none))) else (none)) else (none)))
set_option maxHeartbeats 8000000 in
set_option maxRecDepth 100000 in
theorem pad_Add.calls (A0 : Option Addr) (c0 : Nat) (l0 : List Int) (a1 : Int) (r1 : List Int) (r2 : Int) (w : World) (hr0 : Kd.C (Kd.int .u8) w A0 l0.length l0) (hc0 : l0.length ≤ c0) (h : pad_Add.f l0 a1 = some (r1, r2)) :
  Calls Try.prog 38 #[.slice A0 l0.length c0, .int .i64 a1] w fun e w' => ∃ v0_ : Value, e = .returned (.tuple #[v0_, .int .i64 r2]) ∧ Kd.R (Kd.int .u8) 5 w' w.heap.size (fun _ => True) v0_ r1 ∧ Below w.heap.size w w' := by
 have HR0 := Aside0.mk hr0
 have HC0 := Aside0.mk hc0
 clear hr0 hc0
 have HB := Aside0.mk (Below.refl w.heap.size w)
 have H : (if a1 < 1 then (some (([] : List Int), 1)) else (if a1 > 255 then (some (([] : List Int), 1)) else (if 0 ≤ (wrap64 ((l0.length : Int) + a1)) then (if (wrap64 ((l0.length : Int) + a1) : Int).toNat ≤ 281474976710656 then ((some (List.replicate (wrap64 ((l0.length : Int) + a1) : Int).toNat 0 : List Int)).bind fun y640 => (if 0 ≤ (wrap64 ((y640.length : Int) - 1)) then (if (wrap64 ((y640.length : Int) - 1)) < (y640.length : Int) then (some (((l0.take (min l0.length y640.length) ++ y640.drop (min l0.length y640.length)).set ((wrap64 ((y640.length : Int) - 1)) : Int).toNat ((a1) % 256)), 0)) else (none)) else (none))) else (none)) else (none)))) = some (r1, r2) := h
 clear h
 by_cases c3 : a1 < 1
 ·rw [if_pos c3] at H
  have c3b0 : decide (a1 < 1) = true := decide_eq_true c3
  clear c3
  simp only [Option.some.injEq, Prod.mk.injEq] at H
  obtain ⟨rfl, rfl⟩ := H
  go_enter Try.func38, Try.ntmps38
  go_wp2
  go_ret2
  exact ⟨_, by first | rfl | (simp [errW_none, errW_some] <;> rfl) | (simp [*, errW_none, errW_some] <;> rfl), by first | exact Kd.R_nil _ _ _ _ _ | exact Kd.N_nil _ _ _ _ _ | exact Kd.V_nil _ _ _ _ _ | exact Kd.Q_nil _ _ _ _ _ | exact Kd.S_nil _ _ _ _ _, by repeat (first | (with_reducible first | exact HB.out | apply below_alloc | apply pw_below_drewN | apply below_drew1) | exact HB.out)⟩
 rw [if_neg c3] at H
 have c3b0 : decide (a1 < 1) = false := decide_eq_false c3
 clear c3
 by_cases c4 : a1 > 255
 ·rw [if_pos c4] at H
  have c4b0 : decide (255 < a1) = true := decide_eq_true c4
  clear c4
  simp only [Option.some.injEq, Prod.mk.injEq] at H
  obtain ⟨rfl, rfl⟩ := H
  go_enter Try.func38, Try.ntmps38
  go_wp2
  go_ret2
  exact ⟨_, by first | rfl | (simp [errW_none, errW_some] <;> rfl) | (simp [*, errW_none, errW_some] <;> rfl), by first | exact Kd.R_nil _ _ _ _ _ | exact Kd.N_nil _ _ _ _ _ | exact Kd.V_nil _ _ _ _ _ | exact Kd.Q_nil _ _ _ _ _ | exact Kd.S_nil _ _ _ _ _, by repeat (first | (with_reducible first | exact HB.out | apply below_alloc | apply pw_below_drewN | apply below_drew1) | exact HB.out)⟩
 rw [if_neg c4] at H
 have c4b0 : decide (255 < a1) = false := decide_eq_false c4
 clear c4
 obtain ⟨ji5, hji5⟩ : ∃ j_ : Int, (wrap64 ((l0.length : Int) + a1)) = j_ := ⟨_, rfl⟩
 replace H : (if 0 ≤ (ji5) then (if (ji5 : Int).toNat ≤ 281474976710656 then ((some (List.replicate (ji5 : Int).toNat 0 : List Int)).bind fun y640 => (if 0 ≤ (wrap64 ((y640.length : Int) - 1)) then (if (wrap64 ((y640.length : Int) - 1)) < (y640.length : Int) then (some (((l0.take (min l0.length y640.length) ++ y640.drop (min l0.length y640.length)).set ((wrap64 ((y640.length : Int) - 1)) : Int).toNat ((a1) % 256)), 0)) else (none)) else (none))) else (none)) else (none)) = some (r1, r2) := by first | (rw [hji5] at H; exact H) | (simp only [hji5] at H ⊢; exact H)
 have hji5w : (IntKind.i64.wrap ((l0.length : Int) + a1)) = ji5 := (i64_w _).trans hji5
 by_cases c6 : 0 ≤ (ji5)
 ·rw [if_pos c6] at H
  have c6b0 := eq_true c6
  have c6b1 : decide (0 ≤ (ji5)) = true := decide_eq_true c6
  clear c6
  by_cases c7 : (ji5 : Int).toNat ≤ 281474976710656
  ·rw [if_pos c7] at H
   have c7b0 := eq_true c7
   have c7b1 : decide ((ji5 : Int).toNat ≤ 281474976710656) = true := decide_eq_true c7
   clear c7
   obtain ⟨y640, hy640⟩ : ∃ y_ : List Int, y_ = (List.replicate (ji5 : Int).toNat 0) := ⟨_, rfl⟩
   replace H : (if 0 ≤ (wrap64 ((y640.length : Int) - 1)) then (if (wrap64 ((y640.length : Int) - 1)) < (y640.length : Int) then (some (((l0.take (min l0.length y640.length) ++ y640.drop (min l0.length y640.length)).set ((wrap64 ((y640.length : Int) - 1)) : Int).toNat ((a1) % 256)), 0)) else (none)) else (none)) = some (r1, r2) := by first | (rw [hy640]; with_reducible exact H) | (have H2_ := (Option.bind_some _ _).symm.trans H; rw [hy640]; with_reducible exact H2_) | (have H2_ := (Option.bind_some _ _).symm.trans H; with_reducible exact H2_) | with_reducible exact H | (rw [hy640]; exact H) | exact H
   have Ny640 := Aside0.mk hy640
   clear hy640
   obtain ⟨y643, hy643⟩ : ∃ y_ : List Int, y_ = (l0.take (min l0.length y640.length) ++ y640.drop (min l0.length y640.length)) := ⟨_, rfl⟩
   replace H : (if 0 ≤ (wrap64 ((y640.length : Int) - 1)) then (if (wrap64 ((y640.length : Int) - 1)) < (y640.length : Int) then (some ((y643.set ((wrap64 ((y640.length : Int) - 1)) : Int).toNat ((a1) % 256)), 0)) else (none)) else (none)) = some (r1, r2) := by first | (rw [hy643]; with_reducible exact H) | (have H2_ := (Option.bind_some _ _).symm.trans H; rw [hy643]; with_reducible exact H2_) | (have H2_ := (Option.bind_some _ _).symm.trans H; with_reducible exact H2_) | with_reducible exact H | (rw [hy643]; exact H) | exact H
   have Ny643 := Aside0.mk hy643
   clear hy643
   obtain ⟨ji8, hji8⟩ : ∃ j_ : Int, (wrap64 ((y640.length : Int) - 1)) = j_ := ⟨_, rfl⟩
   replace H : (if 0 ≤ (ji8) then (if (ji8) < (y640.length : Int) then (some ((y643.set ((ji8) : Int).toNat ((a1) % 256)), 0)) else (none)) else (none)) = some (r1, r2) := by first | (rw [hji8] at H; exact H) | (simp only [hji8] at H ⊢; exact H)
   have hji8w : (IntKind.i64.wrap ((y640.length : Int) - 1)) = ji8 := (i64_w _).trans hji8
   by_cases c9 : 0 ≤ (ji8)
   ·rw [if_pos c9] at H
    have c9b0 : decide (0 ≤ (ji8)) = true := decide_eq_true c9
    clear c9
    by_cases c10 : (ji8) < (y640.length : Int)
    ·rw [if_pos c10] at H
     have c10b0 : decide ((ji8) < (y640.length : Int)) = true := decide_eq_true c10
     clear c10
     obtain ⟨y644, hy644⟩ : ∃ y_ : List Int, y_ = (y643.set ((ji8) : Int).toNat ((a1) % 256)) := ⟨_, rfl⟩
     replace H : (some (y644, 0)) = some (r1, r2) := by first | (rw [hy644]; with_reducible exact H) | (have H2_ := (Option.bind_some _ _).symm.trans H; rw [hy644]; with_reducible exact H2_) | (have H2_ := (Option.bind_some _ _).symm.trans H; with_reducible exact H2_) | with_reducible exact H | (rw [hy644]; exact H) | exact H
     have Ny644 := Aside0.mk hy644
     clear hy644
     simp only [Option.some.injEq, Prod.mk.injEq] at H
     obtain ⟨rfl, rfl⟩ := H
     go_enter Try.func38, Try.ntmps38
     go_wp2_with (first | ((with_reducible refine gate_dst (N := 17) rfl ?_); refine Kd.R_make (Kd.int .u8) _ 5 rfl (N := 17) rfl 22 _ _ rfl ji5 rfl rfl Try.underlying22 (.int .u8 0) 1 info5 rfl (by decide) (by omega) 0 (ok := fun _ => True) (okp := fun _ => True) rfl (fun _ hk => hk) trivial (oT (by first | (with_reducible assumption) | assumption)) (Nat.le_trans (Nat.mul_le_mul_right _ (of_decide_eq_true (by first | (with_reducible assumption) | assumption) : ji5.toNat ≤ 281474976710656)) (by omega)) (Below.refl _ _) (Nat.le_refl _) ?_; intro v641 w12 ho13 hb hg_ hnew_; clear hg_ hnew_; (first | rw [← Ny640.out] at ho13 | (simp only [Int.reduceToNat] at ho13; rw [← Ny640.out] at ho13)); have HO642 := Aside0.mk (Kd.R_lower ho13 (below_size (pB HB))); replace HB := bstE HB hb; clear hb ho13; obtain ⟨Ao16, co16, eo16⟩ := Kd.R_slice HO642.out; subst eo16) | ((with_reducible refine gate_builtin (b := .copy) (xs := #[.tmp 18, .tmp 19]) rfl ?_); refine Kd.R_copy (enc := (Value.int .u8)) (h1 := fun _ => rfl) 0 (w0 := w) w.heap.size rfl (.tmp 18) (.tmp 19) 22 22 5 rfl Try.underlying22 (Kd.info_sz info5) (.slice Ao16 y640.length co16) y640 l0 _ _ _ (fun _ => True) rfl rfl ?aO ?aR ?aB ?aS ?_; (case aO => exact (pR HO642)); (case aR => exact cbE HR0 HB); (case aB => exact (pB HB)); (case aS => exact (below_size (pB HB))); intro w15 hp0_ hb hg; rw [← Ny643.out] at hp0_; have hp_ : Kd.R (Kd.int .u8) 5 w15 w.heap.size (fun _ => True) (.slice Ao16 y640.length co16) y643 := hp0_; replace HO642 := Aside0.mk (hp_); replace HB := Aside0.mk (hb); clear hg hb hp_ hp0_; have p11 : 0 ≤ ((ji8) : Int) := of_decide_eq_true (by first | (with_reducible assumption) | assumption); have q11 : ((ji8) : Int) < ((y640.length : Int) : Int) := of_decide_eq_true (by first | (with_reducible assumption) | assumption); obtain ⟨go11, co11, eo11, gb11, gl11, cl11, HG11⟩ := Kd.R_form HO642.out (by first | omega | (simp only [Ny643.out, List.length_set, List.length_append, List.length_take, List.length_drop]; omega)); (first | cases eo11 | (injection eo11 with ea_ en_ ec_; (first | subst ea_ | (injection ea_ with ea_; subst ea_)); subst ec_; clear en_)); have GB11 := Aside0.mk gb11; have GG11 := Aside0.mk HG11; clear gb11 gl11 HG11; obtain ⟨hx11_0, hf11_0⟩ := Kd.R_celln 0 HO642.out ((ji8) : Int) p11 q11; replace p11 := eq_true p11; replace q11 := eq_true q11; obtain ⟨hy17_, hz17_⟩ := Kd.R_celln 0 HO642.out ((ji8) : Int) (oT (by first | (with_reducible assumption) | assumption)) (oT (by first | (with_reducible assumption) | assumption)); have HP17 := Kd.R_putg HO642.out ((ji8) : Int) ((a1) % 256)) | ((with_reducible refine gate_store (t := 5) (p := 27) rfl ?_); refine store_event (t := 5) (p := 27) (v := ?vo_w18) (w1 := (w15.setCell ⟨go11, ((ji8) : Int).toNat, none⟩ (.int .u8 ((a1) % 256)))) ?hg ?ho ?hn ?hr ?_; (case ho => rfl); (case hg => rfl); (case hn => rfl); (case hr => first | (go_simp; done) | (go_simp; rfl)); intro w18 hw; have hg : w15.grownBy w18 (some go11) := (by rw [hw]; exact HP17.2); have hp_ : Kd.R (Kd.int .u8) 5 w18 w.heap.size (fun _ => True) (.slice (some ⟨go11, 0, none⟩) y640.length co16) y644 := (by rw [hw, Ny644.out]; exact HP17.1); clear HP17; replace HO642 := Aside0.mk (hp_); replace HB := Aside0.mk ((by rw [hw]; exact below_set (HB.out) GB11.out : Below w.heap.size w w18)); clear hg hw hp_))
     go_ret2
     exact ⟨_, by first | rfl | (simp [errW_none, errW_some] <;> rfl) | (simp only [← hji5, ← hji8]; first | rfl | (simp [errW_none, errW_some] <;> rfl)) | (simp [*, errW_none, errW_some] <;> rfl), by (with_reducible repeat (first | apply Kd.R_alloc | apply Kd.R_drewN | apply Kd.R_drew)); exact HO642.out, by repeat (first | (with_reducible first | exact HB.out | apply below_alloc | apply pw_below_drewN | apply below_drew1) | exact HB.out)⟩
    rw [if_neg c10] at H
    exact absurd H (by simp)
   rw [if_neg c9] at H
   exact absurd H (by simp)
  rw [if_neg c7] at H
  exact absurd H (by simp)
 rw [if_neg c6] at H
 exact absurd H (by simp)
def packet_Write.j0 : Nat → List Int → Bool → Bool → Bool → Int → Int → Int → Int → List Int → Int → List Int → List Int → Int → Option (List Int × Int)
 | 0, _, _, _, _, _, _, _, _, _, _, _, _, _ => none
 | k + 1, x6, x646000, x646001, x646002, x646003, x646004, x646005, x646006, x646007, x646008, x646009, x646010, x646011 => (octet_Join.f k (([x6, x646010] : List (List Int)))).bind fun t664 => (if x646000 = true then ((pad_Add.f t664 x646011).bind fun bt667 => (some (bt667.1, bt667.2))) else (some (t664, 0)))
def packet_Write.f (k : Nat) (a0_0 : Bool) (a0_1 : Bool) (a0_2 : Bool) (a0_3 : Int) (a0_4 : Int) (a0_5 : Int) (a0_6 : Int) (l0_7 : List Int) (a0_8 : Int) (l0_9 : List Int) (l0_10 : List Int) (a0_11 : Int) (a1 : Int) : Option (List Int × Int) := (packet_Right.f k a0_0 a0_1 a0_2 a0_3 a0_4 a0_5 a0_6 l0_7 a0_8 l0_9 l0_10 a0_11).bind fun t646 => (if t646 = true then ((packet_sum.f a0_0 a0_1 a0_2 a0_3 a0_4 a0_5 a0_6 l0_7 a0_8 l0_9 l0_10 a0_11).bind fun t647 => (if t647 > a1 then (some (([] : List Int), 7)) else ((head_Write.f k a0_0 a0_1 a0_2 a0_3 a0_4 a0_5 a0_6 l0_7).bind fun bt648 => (if bt648.2 = 0 then (if a0_1 = true then ((octet_Join.f k (([bt648.1, (([(a0_8 / 256) % 256, (a0_8) % 256, ((wrap64 ((l0_9.length : Int) / 4)) / 256) % 256, (wrap64 ((l0_9.length : Int) / 4)) % 256] : List Int)), l0_9] : List (List Int)))).bind fun t658 => (packet_Write.j0 k t658 a0_0 a0_1 a0_2 a0_3 a0_4 a0_5 a0_6 l0_7 a0_8 l0_9 l0_10 a0_11)) else (packet_Write.j0 k bt648.1 a0_0 a0_1 a0_2 a0_3 a0_4 a0_5 a0_6 l0_7 a0_8 l0_9 l0_10 a0_11)) else (some (([] : List Int), 1)))))) else (some (([] : List Int), 1)))
theorem packet_Write.mono_l : ∀ k, (∀ y0 y1 y2 y3 y4 y5 y6 y7 y8 y9 y10 y11 y12, LeO (packet_Write.j0 k y0 y1 y2 y3 y4 y5 y6 y7 y8 y9 y10 y11 y12) (packet_Write.j0 (k + 1) y0 y1 y2 y3 y4 y5 y6 y7 y8 y9 y10 y11 y12))
 | 0 => fun _ _ _ _ _ _ _ _ _ _ _ _ _ r h => by simp [packet_Write.j0] at h
 | k + 1 => by
  have ih0 := packet_Write.mono_l k
  intro y0 y1 y2 y3 y4 y5 y6 y7 y8 y9 y10 y11 y12
  unfold packet_Write.j0
  repeat' first
  | (with_reducible exact ih0 _ _ _ _ _ _ _ _ _ _ _ _ _)
  | (with_reducible exact head_Write.mono _ _ _ _ _ _ _ _ _)
  | (with_reducible exact octet_Join.mono _ _)
  | (with_reducible exact packet_Right.mono _ _ _ _ _ _ _ _ _ _ _ _ _)
  | (with_reducible exact LeO.refl _)
  | (with_reducible exact LeO.none _)
  | (with_reducible refine LeO.ite ?_ ?_)
  | (with_reducible refine LeO.bind ?_ (fun _ => ?_))
  | exact ih0 _ _ _ _ _ _ _ _ _ _ _ _ _
  | exact head_Write.mono _ _ _ _ _ _ _ _ _
  | exact octet_Join.mono _ _
  | exact packet_Right.mono _ _ _ _ _ _ _ _ _ _ _ _ _
  | exact LeO.none _
  | refine LeO.ite ?_ ?_
  | refine LeO.bind ?_ (fun _ => ?_)
theorem packet_Write.mono : ∀ a0 a1 a2 a3 a4 a5 a6 a7 a8 a9 a10 a11 a12 k, LeO (packet_Write.f k a0 a1 a2 a3 a4 a5 a6 a7 a8 a9 a10 a11 a12) (packet_Write.f (k + 1) a0 a1 a2 a3 a4 a5 a6 a7 a8 a9 a10 a11 a12) := by
 intro a0 a1 a2 a3 a4 a5 a6 a7 a8 a9 a10 a11 a12 k
 have ih0 := packet_Write.mono_l k
 unfold packet_Write.f
 repeat' first
   | (with_reducible exact ih0 _ _ _ _ _ _ _ _ _ _ _ _ _)
   | (with_reducible exact head_Write.mono _ _ _ _ _ _ _ _ _)
   | (with_reducible exact octet_Join.mono _ _)
   | (with_reducible exact packet_Right.mono _ _ _ _ _ _ _ _ _ _ _ _ _)
   | (with_reducible exact LeO.refl _)
   | (with_reducible exact LeO.none _)
   | (with_reducible refine LeO.ite ?_ ?_)
   | (with_reducible refine LeO.bind ?_ (fun _ => ?_))
   | exact ih0 _ _ _ _ _ _ _ _ _ _ _ _ _
   | exact head_Write.mono _ _ _ _ _ _ _ _ _
   | exact octet_Join.mono _ _
   | exact packet_Right.mono _ _ _ _ _ _ _ _ _ _ _ _ _
   | exact LeO.none _
   | refine LeO.ite ?_ ?_
   | refine LeO.bind ?_ (fun _ => ?_)
set_option maxHeartbeats 8000000 in
set_option maxRecDepth 100000 in
theorem packet_Write.calls (k : Nat) (a0_0 : Bool) (a0_1 : Bool) (a0_2 : Bool) (a0_3 : Int) (a0_4 : Int) (a0_5 : Int) (a0_6 : Int) (A0_7 : Option Addr) (c0_7 : Nat) (l0_7 : List Int) (a0_8 : Int) (P0_9_ : Nat → Prop) (A0_9 : Option Addr) (c0_9 : Nat) (l0_9 : List Int) (P0_10_ : Nat → Prop) (A0_10 : Option Addr) (c0_10 : Nat) (l0_10 : List Int) (a0_11 : Int) (a1 : Int) (r1 : List Int) (r2 : Int) (w : World) (hr0_7 : Kd.C (Kd.int .u32) w A0_7 l0_7.length l0_7) (hc0_7 : l0_7.length ≤ c0_7) (hs0_9 : Kd.V (Kd.int .u8) 5 w w.heap.size (fun k_ => P0_9_ k_) (.slice A0_9 l0_9.length c0_9) l0_9) (hs0_10 : Kd.V (Kd.int .u8) 5 w w.heap.size (fun k_ => P0_10_ k_) (.slice A0_10 l0_10.length c0_10) l0_10) (h : packet_Write.f k a0_0 a0_1 a0_2 a0_3 a0_4 a0_5 a0_6 l0_7 a0_8 l0_9 l0_10 a0_11 a1 = some (r1, r2)) :
  Calls Try.prog 22 #[.agg #[.bool a0_0, .bool a0_1, .bool a0_2, .int .i64 a0_3, .int .u16 a0_4, .int .u32 a0_5, .int .u32 a0_6, .slice A0_7 l0_7.length c0_7, .int .u16 a0_8, .slice A0_9 l0_9.length c0_9, .slice A0_10 l0_10.length c0_10, .int .i64 a0_11], .int .i64 a1] w fun e w' => ∃ v0_ : Value, e = .returned (.tuple #[v0_, .int .i64 r2]) ∧ Kd.R (Kd.int .u8) 5 w' w.heap.size (fun k_ => (w.heap.size ≤ k_)) v0_ r1 ∧ Below w.heap.size w w' := by
 have hu45 := Try.underlying45
 have hu43 := Try.underlying43
 have HR0_7 := Aside0.mk hr0_7
 have HC0_7 := Aside0.mk hc0_7
 clear hr0_7 hc0_7
 have HO0_9 := Aside0.mk (show Kd.V (Kd.int .u8) 5 w w.heap.size (fun k_ => ((P0_9_ k_ ∨ P0_10_ k_) ∨ w.heap.size ≤ k_)) (.slice A0_9 l0_9.length c0_9) l0_9 from Kd.V_mono hs0_9 (fun k_ hk => .inl (.inl hk)))
 have HO0_10 := Aside0.mk (show Kd.V (Kd.int .u8) 5 w w.heap.size (fun k_ => ((P0_9_ k_ ∨ P0_10_ k_) ∨ w.heap.size ≤ k_)) (.slice A0_10 l0_10.length c0_10) l0_10 from Kd.V_mono hs0_10 (fun k_ hk => .inl (.inr hk)))
 have HB := Aside0.mk (Below.refl w.heap.size w)
 have H : ((packet_Right.f k a0_0 a0_1 a0_2 a0_3 a0_4 a0_5 a0_6 l0_7 a0_8 l0_9 l0_10 a0_11).bind fun t646 => (if t646 = true then ((packet_sum.f a0_0 a0_1 a0_2 a0_3 a0_4 a0_5 a0_6 l0_7 a0_8 l0_9 l0_10 a0_11).bind fun t647 => (if t647 > a1 then (some (([] : List Int), 7)) else ((head_Write.f k a0_0 a0_1 a0_2 a0_3 a0_4 a0_5 a0_6 l0_7).bind fun bt648 => (if bt648.2 = 0 then (if a0_1 = true then ((octet_Join.f k (([bt648.1, (([(a0_8 / 256) % 256, (a0_8) % 256, ((wrap64 ((l0_9.length : Int) / 4)) / 256) % 256, (wrap64 ((l0_9.length : Int) / 4)) % 256] : List Int)), l0_9] : List (List Int)))).bind fun t658 => (packet_Write.j0 k t658 a0_0 a0_1 a0_2 a0_3 a0_4 a0_5 a0_6 l0_7 a0_8 l0_9 l0_10 a0_11)) else (packet_Write.j0 k bt648.1 a0_0 a0_1 a0_2 a0_3 a0_4 a0_5 a0_6 l0_7 a0_8 l0_9 l0_10 a0_11)) else (some (([] : List Int), 1)))))) else (some (([] : List Int), 1)))) = some (r1, r2) := h
 clear h
 replace H := Option.bind_eq_some_iff.mp H
 obtain ⟨t646, A30, H⟩ := H
 replace H : (if t646 = true then ((packet_sum.f a0_0 a0_1 a0_2 a0_3 a0_4 a0_5 a0_6 l0_7 a0_8 l0_9 l0_10 a0_11).bind fun t647 => (if t647 > a1 then (some (([] : List Int), 7)) else ((head_Write.f k a0_0 a0_1 a0_2 a0_3 a0_4 a0_5 a0_6 l0_7).bind fun bt648 => (if bt648.2 = 0 then (if a0_1 = true then ((octet_Join.f k (([bt648.1, (([(a0_8 / 256) % 256, (a0_8) % 256, ((wrap64 ((l0_9.length : Int) / 4)) / 256) % 256, (wrap64 ((l0_9.length : Int) / 4)) % 256] : List Int)), l0_9] : List (List Int)))).bind fun t658 => (packet_Write.j0 k t658 a0_0 a0_1 a0_2 a0_3 a0_4 a0_5 a0_6 l0_7 a0_8 l0_9 l0_10 a0_11)) else (packet_Write.j0 k bt648.1 a0_0 a0_1 a0_2 a0_3 a0_4 a0_5 a0_6 l0_7 a0_8 l0_9 l0_10 a0_11)) else (some (([] : List Int), 1)))))) else (some (([] : List Int), 1))) = some (r1, r2) := H
 have A3 := Aside0.mk A30
 clear A30
 by_cases c4 : t646 = true
 ·subst c4
  have H1 : ((packet_sum.f a0_0 a0_1 a0_2 a0_3 a0_4 a0_5 a0_6 l0_7 a0_8 l0_9 l0_10 a0_11).bind fun t647 => (if t647 > a1 then (some (([] : List Int), 7)) else ((head_Write.f k a0_0 a0_1 a0_2 a0_3 a0_4 a0_5 a0_6 l0_7).bind fun bt648 => (if bt648.2 = 0 then (if a0_1 = true then ((octet_Join.f k (([bt648.1, (([(a0_8 / 256) % 256, (a0_8) % 256, ((wrap64 ((l0_9.length : Int) / 4)) / 256) % 256, (wrap64 ((l0_9.length : Int) / 4)) % 256] : List Int)), l0_9] : List (List Int)))).bind fun t658 => (packet_Write.j0 k t658 a0_0 a0_1 a0_2 a0_3 a0_4 a0_5 a0_6 l0_7 a0_8 l0_9 l0_10 a0_11)) else (packet_Write.j0 k bt648.1 a0_0 a0_1 a0_2 a0_3 a0_4 a0_5 a0_6 l0_7 a0_8 l0_9 l0_10 a0_11)) else (some (([] : List Int), 1)))))) = some (r1, r2) := by rw [if_pos rfl] at H; exact H
  clear H
  have H := H1
  clear H1
  replace H := Option.bind_eq_some_iff.mp H
  obtain ⟨t647, A50, H⟩ := H
  replace H : (if t647 > a1 then (some (([] : List Int), 7)) else ((head_Write.f k a0_0 a0_1 a0_2 a0_3 a0_4 a0_5 a0_6 l0_7).bind fun bt648 => (if bt648.2 = 0 then (if a0_1 = true then ((octet_Join.f k (([bt648.1, (([(a0_8 / 256) % 256, (a0_8) % 256, ((wrap64 ((l0_9.length : Int) / 4)) / 256) % 256, (wrap64 ((l0_9.length : Int) / 4)) % 256] : List Int)), l0_9] : List (List Int)))).bind fun t658 => (packet_Write.j0 k t658 a0_0 a0_1 a0_2 a0_3 a0_4 a0_5 a0_6 l0_7 a0_8 l0_9 l0_10 a0_11)) else (packet_Write.j0 k bt648.1 a0_0 a0_1 a0_2 a0_3 a0_4 a0_5 a0_6 l0_7 a0_8 l0_9 l0_10 a0_11)) else (some (([] : List Int), 1))))) = some (r1, r2) := H
  have A5 := Aside0.mk A50
  clear A50
  by_cases c6 : t647 > a1
  ·rw [if_pos c6] at H
   have c6b0 : decide (a1 < t647) = true := decide_eq_true c6
   clear c6
   simp only [Option.some.injEq, Prod.mk.injEq] at H
   obtain ⟨rfl, rfl⟩ := H
   go_enter Try.func22, Try.ntmps22
   go_wp2_with (first | ((with_reducible refine gate_dst (N := 2) rfl ?_); refine box_event ?hg (N := 2) ?hd (cs := #[.bool a0_0, .bool a0_1, .bool a0_2, .int .i64 a0_3, .int .u16 a0_4, .int .u32 a0_5, .int .u32 a0_6, .slice A0_7 l0_7.length c0_7, .int .u16 a0_8, .slice A0_9 l0_9.length c0_9, .slice A0_10 l0_10.length c0_10, .int .i64 a0_11]) (t := 45) ?hr ?_; (case hd => rfl); (case hg => rfl); (case hr => first | (go_simp; done) | (go_simp; rfl)); intro gb645 hg w7 hbox hb; replace HO0_9 := Aside0.mk (Kd.V_below (Kd.V_elderB (by (with_reducible repeat (first | apply Kd.V_alloc | apply Kd.V_drewN | apply Kd.V_drew)); exact HO0_9.out) gb645 (Nat.le_of_eq hg.symm)) hb); replace HO0_10 := Aside0.mk (Kd.V_below (Kd.V_elderB (by (with_reducible repeat (first | apply Kd.V_alloc | apply Kd.V_drewN | apply Kd.V_drew)); exact HO0_10.out) gb645 (Nat.le_of_eq hg.symm)) hb); have n2_ := bstE HB hb; have BK645 := Aside0.mk (hbox); have GW645 := geE hg HB; have GE645 := geE hg HB; clear HB; have HB := n2_; clear n2_; clear hb hbox hg; obtain ⟨Z8_0, Z8_1, Z8_2, Z8_3, Z8_4, Z8_5, Z8_6, Z8_7, Z8_8, Z8_9, Z8_10, Z8_11, Y8_0, Y8_1, Y8_2, Y8_3, Y8_4, Y8_5, Y8_6, Y8_7, Y8_8, Y8_9, Y8_10, Y8_11⟩ := bc12 BK645.out) | ((with_reducible refine gate_callee (f := 27) rfl ?_); refine goesL_ (some 11) rfl rfl Try.func27 (by kernel_rfl) rfl #[.agg #[.bool a0_0, .bool a0_1, .bool a0_2, .int .i64 a0_3, .int .u16 a0_4, .int .u32 a0_5, .int .u32 a0_6, .slice A0_7 l0_7.length c0_7, .int .u16 a0_8, .slice A0_9 l0_9.length c0_9, .slice A0_10 l0_10.length c0_10, .int .i64 a0_11]] rfl (by (try simp only [List.map_toArray, List.map_cons, List.map_nil]); first | done | rfl | (simp only [List.length_drop, List.length_take]; rfl)) ?_; (with_reducible refine (packet_Right.calls k a0_0 a0_1 a0_2 a0_3 a0_4 a0_5 a0_6 _ _ l0_7 a0_8 _ _ l0_9 _ _ l0_10 a0_11 true _ ?side1 ?side2 ?side3 ?side4 ?side5 ?side6 A3.out).mono ?_); (case side1 => exact cbE HR0_7 HB); (case side2 => exact HC0_7.out); (case side3 => exact cE (Kd.V_reads' HO0_9.out).2.2); (case side4 => exact (Kd.V_reads' HO0_9.out).2.1); (case side5 => exact cE (Kd.V_reads' HO0_10.out).2.2); (case side6 => exact (Kd.V_reads' HO0_10.out).2.1); rintro e w9 ⟨rfl, hb⟩; refine ⟨_, rfl, ?_⟩; replace HO0_9 := Aside0.mk (Kd.V_below (by (with_reducible repeat (first | apply Kd.V_alloc | apply Kd.V_drewN | apply Kd.V_drew)); exact HO0_9.out) hb); replace HO0_10 := Aside0.mk (Kd.V_below (by (with_reducible repeat (first | apply Kd.V_alloc | apply Kd.V_drewN | apply Kd.V_drew)); exact HO0_10.out) hb); replace BK645 := bbE BK645 hb; replace HB := bstE HB hb; (try clear hb); (try clear hb2); (try clear hk); (try clear hi); obtain ⟨Z10_0, Z10_1, Z10_2, Z10_3, Z10_4, Z10_5, Z10_6, Z10_7, Z10_8, Z10_9, Z10_10, Z10_11, Y10_0, Y10_1, Y10_2, Y10_3, Y10_4, Y10_5, Y10_6, Y10_7, Y10_8, Y10_9, Y10_10, Y10_11⟩ := bc12 BK645.out) | ((with_reducible refine gate_callee (f := 35) rfl ?_); refine goesL_ (some 14) rfl rfl Try.func35 (by kernel_rfl) rfl #[.agg #[.bool a0_0, .bool a0_1, .bool a0_2, .int .i64 a0_3, .int .u16 a0_4, .int .u32 a0_5, .int .u32 a0_6, .slice A0_7 l0_7.length c0_7, .int .u16 a0_8, .slice A0_9 l0_9.length c0_9, .slice A0_10 l0_10.length c0_10, .int .i64 a0_11]] rfl (by (try simp only [List.map_toArray, List.map_cons, List.map_nil]); first | done | rfl | (simp only [List.length_drop, List.length_take]; rfl)) ?_; (with_reducible refine (packet_sum.calls a0_0 a0_1 a0_2 a0_3 a0_4 a0_5 a0_6 _ _ l0_7 a0_8 _ _ l0_9 _ _ l0_10 a0_11 t647 _ ?side1 ?side2 ?side3 ?side4 ?side5 ?side6 A5.out).mono ?_); (case side1 => exact cbE HR0_7 HB); (case side2 => exact HC0_7.out); (case side3 => exact cE (Kd.V_reads' HO0_9.out).2.2); (case side4 => exact (Kd.V_reads' HO0_9.out).2.1); (case side5 => exact cE (Kd.V_reads' HO0_10.out).2.2); (case side6 => exact (Kd.V_reads' HO0_10.out).2.1); rintro e w11 ⟨rfl, hb⟩; refine ⟨_, rfl, ?_⟩; replace HO0_9 := Aside0.mk (Kd.V_below (by (with_reducible repeat (first | apply Kd.V_alloc | apply Kd.V_drewN | apply Kd.V_drew)); exact HO0_9.out) hb); replace HO0_10 := Aside0.mk (Kd.V_below (by (with_reducible repeat (first | apply Kd.V_alloc | apply Kd.V_drewN | apply Kd.V_drew)); exact HO0_10.out) hb); replace BK645 := bbE BK645 hb; replace HB := bstE HB hb; (try clear hb); (try clear hb2); (try clear hk); (try clear hi)))
   go_ret2
   exact ⟨_, by first | rfl | (simp [errW_none, errW_some] <;> rfl) | (simp [*, errW_none, errW_some] <;> rfl), by first | exact Kd.R_nil _ _ _ _ _ | exact Kd.N_nil _ _ _ _ _ | exact Kd.V_nil _ _ _ _ _ | exact Kd.Q_nil _ _ _ _ _ | exact Kd.S_nil _ _ _ _ _, by repeat (first | (with_reducible first | exact HB.out | apply below_alloc | apply pw_below_drewN | apply below_drew1 | refine below_set ?_ GE645.out) | exact HB.out)⟩
  rw [if_neg c6] at H
  have c6b0 : decide (a1 < t647) = false := decide_eq_false c6
  clear c6
  replace H := Option.bind_eq_some_iff.mp H
  obtain ⟨⟨t648, t651⟩, A120, H⟩ := H
  replace H : (if t651 = 0 then (if a0_1 = true then ((octet_Join.f k (([t648, (([(a0_8 / 256) % 256, (a0_8) % 256, ((wrap64 ((l0_9.length : Int) / 4)) / 256) % 256, (wrap64 ((l0_9.length : Int) / 4)) % 256] : List Int)), l0_9] : List (List Int)))).bind fun t658 => (packet_Write.j0 k t658 a0_0 a0_1 a0_2 a0_3 a0_4 a0_5 a0_6 l0_7 a0_8 l0_9 l0_10 a0_11)) else (packet_Write.j0 k t648 a0_0 a0_1 a0_2 a0_3 a0_4 a0_5 a0_6 l0_7 a0_8 l0_9 l0_10 a0_11)) else (some (([] : List Int), 1))) = some (r1, r2) := H
  have A12 := Aside0.mk A120
  clear A120
  by_cases c13 : t651 = 0
  ·rw [if_pos c13] at H
   have c13b0 : (t651 == 0) = true := beq_iff_eq.mpr c13
   have c13b1 : (t651 != 0) = false := bne_eq_false_iff_eq.mpr c13
   clear c13
   have HC14 := Aside0.mk H
   clear H
   go_enter Try.func22, Try.ntmps22
   go_upto_if 27 with (first | ((with_reducible refine gate_dst (N := 2) rfl ?_); refine box_event ?hg (N := 2) ?hd (cs := #[.bool a0_0, .bool a0_1, .bool a0_2, .int .i64 a0_3, .int .u16 a0_4, .int .u32 a0_5, .int .u32 a0_6, .slice A0_7 l0_7.length c0_7, .int .u16 a0_8, .slice A0_9 l0_9.length c0_9, .slice A0_10 l0_10.length c0_10, .int .i64 a0_11]) (t := 45) ?hr ?_; (case hd => rfl); (case hg => rfl); (case hr => first | (go_simp; done) | (go_simp; rfl)); intro gb645 hg w15 hbox hb; replace HO0_9 := Aside0.mk (Kd.V_below (Kd.V_elderB (by (with_reducible repeat (first | apply Kd.V_alloc | apply Kd.V_drewN | apply Kd.V_drew)); exact HO0_9.out) gb645 (Nat.le_of_eq hg.symm)) hb); replace HO0_10 := Aside0.mk (Kd.V_below (Kd.V_elderB (by (with_reducible repeat (first | apply Kd.V_alloc | apply Kd.V_drewN | apply Kd.V_drew)); exact HO0_10.out) gb645 (Nat.le_of_eq hg.symm)) hb); have n2_ := bstE HB hb; have BK645 := Aside0.mk (hbox); have GW645 := geE hg HB; have GE645 := geE hg HB; clear HB; have HB := n2_; clear n2_; clear hb hbox hg; obtain ⟨Z16_0, Z16_1, Z16_2, Z16_3, Z16_4, Z16_5, Z16_6, Z16_7, Z16_8, Z16_9, Z16_10, Z16_11, Y16_0, Y16_1, Y16_2, Y16_3, Y16_4, Y16_5, Y16_6, Y16_7, Y16_8, Y16_9, Y16_10, Y16_11⟩ := bc12 BK645.out) | ((with_reducible refine gate_callee (f := 27) rfl ?_); refine goesL_ (some 11) rfl rfl Try.func27 (by kernel_rfl) rfl #[.agg #[.bool a0_0, .bool a0_1, .bool a0_2, .int .i64 a0_3, .int .u16 a0_4, .int .u32 a0_5, .int .u32 a0_6, .slice A0_7 l0_7.length c0_7, .int .u16 a0_8, .slice A0_9 l0_9.length c0_9, .slice A0_10 l0_10.length c0_10, .int .i64 a0_11]] rfl (by (try simp only [List.map_toArray, List.map_cons, List.map_nil]); first | done | rfl | (simp only [List.length_drop, List.length_take]; rfl)) ?_; (with_reducible refine (packet_Right.calls k a0_0 a0_1 a0_2 a0_3 a0_4 a0_5 a0_6 _ _ l0_7 a0_8 _ _ l0_9 _ _ l0_10 a0_11 true _ ?side1 ?side2 ?side3 ?side4 ?side5 ?side6 A3.out).mono ?_); (case side1 => exact cbE HR0_7 HB); (case side2 => exact HC0_7.out); (case side3 => exact cE (Kd.V_reads' HO0_9.out).2.2); (case side4 => exact (Kd.V_reads' HO0_9.out).2.1); (case side5 => exact cE (Kd.V_reads' HO0_10.out).2.2); (case side6 => exact (Kd.V_reads' HO0_10.out).2.1); rintro e w17 ⟨rfl, hb⟩; refine ⟨_, rfl, ?_⟩; replace HO0_9 := Aside0.mk (Kd.V_below (by (with_reducible repeat (first | apply Kd.V_alloc | apply Kd.V_drewN | apply Kd.V_drew)); exact HO0_9.out) hb); replace HO0_10 := Aside0.mk (Kd.V_below (by (with_reducible repeat (first | apply Kd.V_alloc | apply Kd.V_drewN | apply Kd.V_drew)); exact HO0_10.out) hb); replace BK645 := bbE BK645 hb; replace HB := bstE HB hb; (try clear hb); (try clear hb2); (try clear hk); (try clear hi); obtain ⟨Z18_0, Z18_1, Z18_2, Z18_3, Z18_4, Z18_5, Z18_6, Z18_7, Z18_8, Z18_9, Z18_10, Z18_11, Y18_0, Y18_1, Y18_2, Y18_3, Y18_4, Y18_5, Y18_6, Y18_7, Y18_8, Y18_9, Y18_10, Y18_11⟩ := bc12 BK645.out) | ((with_reducible refine gate_callee (f := 35) rfl ?_); refine goesL_ (some 14) rfl rfl Try.func35 (by kernel_rfl) rfl #[.agg #[.bool a0_0, .bool a0_1, .bool a0_2, .int .i64 a0_3, .int .u16 a0_4, .int .u32 a0_5, .int .u32 a0_6, .slice A0_7 l0_7.length c0_7, .int .u16 a0_8, .slice A0_9 l0_9.length c0_9, .slice A0_10 l0_10.length c0_10, .int .i64 a0_11]] rfl (by (try simp only [List.map_toArray, List.map_cons, List.map_nil]); first | done | rfl | (simp only [List.length_drop, List.length_take]; rfl)) ?_; (with_reducible refine (packet_sum.calls a0_0 a0_1 a0_2 a0_3 a0_4 a0_5 a0_6 _ _ l0_7 a0_8 _ _ l0_9 _ _ l0_10 a0_11 t647 _ ?side1 ?side2 ?side3 ?side4 ?side5 ?side6 A5.out).mono ?_); (case side1 => exact cbE HR0_7 HB); (case side2 => exact HC0_7.out); (case side3 => exact cE (Kd.V_reads' HO0_9.out).2.2); (case side4 => exact (Kd.V_reads' HO0_9.out).2.1); (case side5 => exact cE (Kd.V_reads' HO0_10.out).2.2); (case side6 => exact (Kd.V_reads' HO0_10.out).2.1); rintro e w19 ⟨rfl, hb⟩; refine ⟨_, rfl, ?_⟩; replace HO0_9 := Aside0.mk (Kd.V_below (by (with_reducible repeat (first | apply Kd.V_alloc | apply Kd.V_drewN | apply Kd.V_drew)); exact HO0_9.out) hb); replace HO0_10 := Aside0.mk (Kd.V_below (by (with_reducible repeat (first | apply Kd.V_alloc | apply Kd.V_drewN | apply Kd.V_drew)); exact HO0_10.out) hb); replace BK645 := bbE BK645 hb; replace HB := bstE HB hb; (try clear hb); (try clear hb2); (try clear hk); (try clear hi); obtain ⟨Z20_0, Z20_1, Z20_2, Z20_3, Z20_4, Z20_5, Z20_6, Z20_7, Z20_8, Z20_9, Z20_10, Z20_11, Y20_0, Y20_1, Y20_2, Y20_3, Y20_4, Y20_5, Y20_6, Y20_7, Y20_8, Y20_9, Y20_10, Y20_11⟩ := bc12 BK645.out) | ((with_reducible refine gate_callee (f := 36) rfl ?_); refine goesL_ (some 20) rfl rfl Try.func36 (by kernel_rfl) rfl #[.agg #[.bool a0_0, .bool a0_1, .bool a0_2, .int .i64 a0_3, .int .u16 a0_4, .int .u32 a0_5, .int .u32 a0_6, .slice A0_7 l0_7.length c0_7]] rfl (by (try simp only [List.map_toArray, List.map_cons, List.map_nil]); first | done | rfl | (simp only [List.length_drop, List.length_take]; rfl)) ?_; (with_reducible refine (head_Write.calls k a0_0 a0_1 a0_2 a0_3 a0_4 a0_5 a0_6 _ _ l0_7 t648 t651 _ ?side1 ?side2 A12.out).mono ?_); (case side1 => exact cbE HR0_7 HB); (case side2 => exact HC0_7.out); rintro e w21 ⟨v649, rfl, ho0, hb⟩; refine ⟨_, rfl, ?_⟩; replace HO0_9 := Aside0.mk (Kd.V_elder' (by (with_reducible repeat (first | apply Kd.V_alloc | apply Kd.V_drewN | apply Kd.V_drew)); exact HO0_9.out) (Kd.R_base ho0) hb); replace HO0_10 := Aside0.mk (Kd.V_elder' (by (with_reducible repeat (first | apply Kd.V_alloc | apply Kd.V_drewN | apply Kd.V_drew)); exact HO0_10.out) (Kd.R_base ho0) hb); have HO650 := Aside0.mk (Kd.R_lower (Kd.R_newM (M := fun k_ => (w.heap.size ≤ k_)) ho0 (below_size (pB HB)) (fun k_ h_ => h_)) (below_size (pB HB))); replace BK645 := bbE BK645 hb; replace HB := bstE HB hb; (try clear hb); (try clear hb2); (try clear hk); (try clear hi); (try clear ho0); obtain ⟨Z22_0, Z22_1, Z22_2, Z22_3, Z22_4, Z22_5, Z22_6, Z22_7, Z22_8, Z22_9, Z22_10, Z22_11, Y22_0, Y22_1, Y22_2, Y22_3, Y22_4, Y22_5, Y22_6, Y22_7, Y22_8, Y22_9, Y22_10, Y22_11⟩ := bc12 BK645.out))
   (try simp only [Act.put, List.setIfInBounds_toArray, List.set_cons_zero, List.set_cons_succ])
   go_cut [6] (fun v6 wc => ∃ (kq : Nat) (x6_13 : List Int), Aside0 (packet_Write.j0 kq x6_13 a0_0 a0_1 a0_2 a0_3 a0_4 a0_5 a0_6 l0_7 a0_8 l0_9 l0_10 a0_11 = some (r1, r2)) ∧ Aside0 (kq ≤ k) ∧ Aside0 (Kd.R (Kd.int .u8) 5 wc w.heap.size (fun k_ => (w.heap.size ≤ k_)) v6 x6_13) ∧ Aside0 (Kd.V (Kd.int .u8) 5 wc w.heap.size (fun k_ => ((P0_9_ k_ ∨ P0_10_ k_) ∨ w.heap.size ≤ k_) ∧ some k_ ≠ (v6 : Value).ownBlock ∧ k_ ≠ gb645) (.slice A0_9 l0_9.length c0_9) l0_9) ∧ Aside0 (Kd.V (Kd.int .u8) 5 wc w.heap.size (fun k_ => ((P0_9_ k_ ∨ P0_10_ k_) ∨ w.heap.size ≤ k_) ∧ some k_ ≠ (v6 : Value).ownBlock ∧ k_ ≠ gb645) (.slice A0_10 l0_10.length c0_10) l0_10) ∧ Aside0 (wc.heap[gb645]? = some (.cells #[.bool a0_0, .bool a0_1, .bool a0_2, .int .i64 a0_3, .int .u16 a0_4, .int .u32 a0_5, .int .u32 a0_6, (.slice A0_7 l0_7.length c0_7), .int .u16 a0_8, (.slice A0_9 l0_9.length c0_9), (.slice A0_10 l0_10.length c0_10), .int .i64 a0_11] 45 (0, 0))) ∧ Aside0 (Below w.heap.size w wc))
   case first =>
    have H := HC14.out
    clear HC14
    by_cases c23 : a0_1 = true
    ·subst c23
     have H1 : ((octet_Join.f k (([t648, (([(a0_8 / 256) % 256, (a0_8) % 256, ((wrap64 ((l0_9.length : Int) / 4)) / 256) % 256, (wrap64 ((l0_9.length : Int) / 4)) % 256] : List Int)), l0_9] : List (List Int)))).bind fun t658 => (packet_Write.j0 k t658 a0_0 true a0_2 a0_3 a0_4 a0_5 a0_6 l0_7 a0_8 l0_9 l0_10 a0_11)) = some (r1, r2) := by rw [if_pos rfl] at H; exact H
     clear H
     have H := H1
     clear H1
     obtain ⟨y652, hy652⟩ : ∃ y_ : List Int, y_ = (([(a0_8 / 256) % 256, (a0_8) % 256, ((wrap64 ((l0_9.length : Int) / 4)) / 256) % 256, (wrap64 ((l0_9.length : Int) / 4)) % 256] : List Int)) := ⟨_, rfl⟩
     replace H : ((octet_Join.f k (([t648, y652, l0_9] : List (List Int)))).bind fun t658 => (packet_Write.j0 k t658 a0_0 true a0_2 a0_3 a0_4 a0_5 a0_6 l0_7 a0_8 l0_9 l0_10 a0_11)) = some (r1, r2) := by first | (rw [hy652]; with_reducible exact H) | (have H2_ := (Option.bind_some _ _).symm.trans H; rw [hy652]; with_reducible exact H2_) | (have H2_ := (Option.bind_some _ _).symm.trans H; with_reducible exact H2_) | with_reducible exact H | (rw [hy652]; exact H) | exact H
     have Ny652 := Aside0.mk hy652
     clear hy652
     obtain ⟨y655, hy655⟩ : ∃ y_ : List (List Int), y_ = (([t648, y652, l0_9] : List (List Int))) := ⟨_, rfl⟩
     replace H : ((octet_Join.f k y655).bind fun t658 => (packet_Write.j0 k t658 a0_0 true a0_2 a0_3 a0_4 a0_5 a0_6 l0_7 a0_8 l0_9 l0_10 a0_11)) = some (r1, r2) := by first | (rw [hy655]; with_reducible exact H) | (have H2_ := (Option.bind_some _ _).symm.trans H; rw [hy655]; with_reducible exact H2_) | (have H2_ := (Option.bind_some _ _).symm.trans H; with_reducible exact H2_) | with_reducible exact H | (rw [hy655]; exact H) | exact H
     have Ny655 := Aside0.mk hy655
     clear hy655
     replace H := Option.bind_eq_some_iff.mp H
     obtain ⟨t658, A240, H⟩ := H
     replace H : (packet_Write.j0 k t658 a0_0 true a0_2 a0_3 a0_4 a0_5 a0_6 l0_7 a0_8 l0_9 l0_10 a0_11) = some (r1, r2) := H
     have A24 := Aside0.mk A240
     clear A240
     have H' := Aside0.mk H
     clear H
     obtain ⟨Z25_0, Z25_1, Z25_2, Z25_3, Z25_4, Z25_5, Z25_6, Z25_7, Z25_8, Z25_9, Z25_10, Z25_11, Y25_0, Y25_1, Y25_2, Y25_3, Y25_4, Y25_5, Y25_6, Y25_7, Y25_8, Y25_9, Y25_10, Y25_11⟩ := bc12 BK645.out
     go_wp2_with (first | ((with_reducible refine gate_dst (N := 44) rfl ?_); refine Kd.R_lit (Kd.int .u8) _ 5 ?hg (N := 44) ?hd (xs := ([(a0_8 / 256) % 256, (a0_8) % 256, ((wrap64 ((l0_9.length : Int) / 4)) / 256) % 256, (wrap64 ((l0_9.length : Int) / 4)) % 256] : List Int)) (inner := [.int .u8 ((a0_8 / 256) % 256), .int .u8 ((a0_8) % 256), .int .u8 (((wrap64 ((l0_9.length : Int) / 4)) / 256) % 256), .int .u8 ((wrap64 ((l0_9.length : Int) / 4)) % 256)]) (ok := fun _ => True) (okp := fun _ => True) ?hr ?hp (fun _ hk => hk) trivial (Below.refl _ _) (Nat.le_refl _) (by simp) ?_; (case hd => rfl); (case hg => rfl); (case hr => first | (go_simp; done) | (go_simp; rfl)); (case hp => exact (Reps.one (show Kd.M (Kd.int .u8) _ _ _ ((a0_8 / 256) % 256) [.int .u8 ((a0_8 / 256) % 256)] from rfl) (Reps.one (show Kd.M (Kd.int .u8) _ _ _ ((a0_8) % 256) [.int .u8 ((a0_8) % 256)] from rfl) (Reps.one (show Kd.M (Kd.int .u8) _ _ _ (((wrap64 ((l0_9.length : Int) / 4)) / 256) % 256) [.int .u8 (((wrap64 ((l0_9.length : Int) / 4)) / 256) % 256)] from rfl) (Reps.one (show Kd.M (Kd.int .u8) _ _ _ ((wrap64 ((l0_9.length : Int) / 4)) % 256) [.int .u8 ((wrap64 ((l0_9.length : Int) / 4)) % 256)] from rfl) (Reps.none _ _)))))); intro v653 w26 ho27 hb hg_ hnew_; clear hg_ hnew_; (first | rw [← Ny652.out] at ho27 | (simp only [Int.reduceToNat] at ho27; rw [← Ny652.out] at ho27)); replace HO0_9 := Aside0.mk (Kd.V_elder' (by (with_reducible repeat (first | apply Kd.V_alloc | apply Kd.V_drewN | apply Kd.V_drew)); exact HO0_9.out) (Kd.R_base ho27) hb); replace HO0_10 := Aside0.mk (Kd.V_elder' (by (with_reducible repeat (first | apply Kd.V_alloc | apply Kd.V_drewN | apply Kd.V_drew)); exact HO0_10.out) (Kd.R_base ho27) hb); have n2_ := Aside0.mk (Kd.R_elder' (pR HO650) (Kd.R_base ho27) hb); have HO654 := Aside0.mk (Kd.R_lower (Kd.R_new' (Kd.R_newM (M := fun k_ => (w.heap.size ≤ k_)) ho27 (below_size (pB HB)) (fun k_ h_ => h_)) (Kd.R_lt (pR HO650))) (below_size (pB HB))); replace BK645 := bbE BK645 hb; replace HB := bstE HB hb; clear HO650; have HO650 := n2_; clear n2_; clear hb ho27; obtain ⟨Z28_0, Z28_1, Z28_2, Z28_3, Z28_4, Z28_5, Z28_6, Z28_7, Z28_8, Z28_9, Z28_10, Z28_11, Y28_0, Y28_1, Y28_2, Y28_3, Y28_4, Y28_5, Y28_6, Y28_7, Y28_8, Y28_9, Y28_10, Y28_11⟩ := bc12 BK645.out; obtain ⟨Ao29, co29, eo29⟩ := Kd.R_slice HO650.out; subst eo29; obtain ⟨Ao30, co30, eo30⟩ := Kd.R_slice HO654.out; subst eo30) | ((with_reducible refine gate_dst (N := 49) rfl ?_); refine Kd.N_lit (Kd.slice 5 (Kd.int .u8)) _ 22 ?hg (N' := 49) ?hd (xs := ([t648, y652, l0_9] : List (List Int))) (inner := [.slice Ao29 t648.length co29, .slice Ao30 y652.length co30, .slice A0_9 l0_9.length c0_9]) (ok := (fun k_ => ((P0_9_ k_ ∨ P0_10_ k_) ∨ w.heap.size ≤ k_) ∧ k_ ≠ gb645)) (okp := (fun k_ => ((P0_9_ k_ ∨ P0_10_ k_) ∨ w.heap.size ≤ k_) ∧ k_ ≠ gb645)) ?hr ?hp (fun _ hk => hk) ((show ∀ k_, w26.heap.size ≤ k_ → (fun k_ => ((P0_9_ k_ ∨ P0_10_ k_) ∨ w.heap.size ≤ k_) ∧ k_ ≠ gb645) k_ from fun k_ hk => ⟨(.inr (Nat.le_trans (below_size (pB HB)) hk)), Kd.freshB (g := gb645) (o := .cells #[.bool a0_0, .bool true, .bool a0_2, .int .i64 a0_3, .int .u16 a0_4, .int .u32 a0_5, .int .u32 a0_6, .slice A0_7 l0_7.length c0_7, .int .u16 a0_8, .slice A0_9 l0_9.length c0_9, .slice A0_10 l0_10.length c0_10, .int .i64 a0_11] 45 (0, 0)) (pk BK645) k_ hk⟩) _ (Nat.le_refl _)) (Below.refl _ _) (Nat.le_refl _) (by simp) ?_; (case hd => rfl); (case hg => rfl); (case hr => first | (go_simp; done) | (go_simp; rfl)); (case hp => exact (Reps.one (show Kd.FK (Kd.slice 5 (Kd.int .u8)) _ _ t648 [.slice Ao29 t648.length co29] from (Kd.FK_slice_mk (Kd.R_reads' (Kd.R_mono (ok' := (fun k_ => ((P0_9_ k_ ∨ P0_10_ k_) ∨ w.heap.size ≤ k_) ∧ k_ ≠ gb645)) (Kd.R_types (HO650.out) BK645.out (by decide)) (fun k_ hk => ⟨(.inr (hk.1.1.1)), hk.2⟩))).2.1 (Kd.R_F (Kd.R_mono (ok' := (fun k_ => ((P0_9_ k_ ∨ P0_10_ k_) ∨ w.heap.size ≤ k_) ∧ k_ ≠ gb645)) (Kd.R_types (HO650.out) BK645.out (by decide)) (fun k_ hk => ⟨(.inr (hk.1.1.1)), hk.2⟩))))) (Reps.one (show Kd.FK (Kd.slice 5 (Kd.int .u8)) _ _ y652 [.slice Ao30 y652.length co30] from (Kd.FK_slice_mk (Kd.R_reads' (Kd.R_mono (ok' := (fun k_ => ((P0_9_ k_ ∨ P0_10_ k_) ∨ w.heap.size ≤ k_) ∧ k_ ≠ gb645)) (Kd.R_types (HO654.out) BK645.out (by decide)) (fun k_ hk => ⟨(.inr (hk.1.1.1)), hk.2⟩))).2.1 (Kd.R_F (Kd.R_mono (ok' := (fun k_ => ((P0_9_ k_ ∨ P0_10_ k_) ∨ w.heap.size ≤ k_) ∧ k_ ≠ gb645)) (Kd.R_types (HO654.out) BK645.out (by decide)) (fun k_ hk => ⟨(.inr (hk.1.1.1)), hk.2⟩))))) (Reps.one (show Kd.FK (Kd.slice 5 (Kd.int .u8)) _ _ l0_9 [.slice A0_9 l0_9.length c0_9] from (Kd.FK_slice_mk (Kd.V_reads' (Kd.V_mono (ok' := (fun k_ => ((P0_9_ k_ ∨ P0_10_ k_) ∨ w.heap.size ≤ k_) ∧ k_ ≠ gb645)) (HO0_9.out) (fun k_ hk => ⟨hk.1.1.1, hk.1.1.2⟩))).2.1 (Kd.V_F (Kd.V_mono (ok' := (fun k_ => ((P0_9_ k_ ∨ P0_10_ k_) ∨ w.heap.size ≤ k_) ∧ k_ ≠ gb645)) (HO0_9.out) (fun k_ hk => ⟨hk.1.1.1, hk.1.1.2⟩))))) (Reps.none _ _))))); intro v656 w31 ho32 hb hg_ hnew_; clear hg_ hnew_; (first | rw [← Ny655.out] at ho32 | (simp only [Int.reduceToNat] at ho32; rw [← Ny655.out] at ho32)); replace HO0_9 := Aside0.mk (Kd.V_elder' (by (with_reducible repeat (first | apply Kd.V_alloc | apply Kd.V_drewN | apply Kd.V_drew)); exact HO0_9.out) (Kd.N_base ho32) hb); replace HO0_10 := Aside0.mk (Kd.V_elder' (by (with_reducible repeat (first | apply Kd.V_alloc | apply Kd.V_drewN | apply Kd.V_drew)); exact HO0_10.out) (Kd.N_base ho32) hb); have HO657 := Aside0.mk (Kd.N_lower ho32 (below_size (pB HB))); replace BK645 := bbE BK645 hb; replace HB := bstE HB hb; clear HO650; clear HO654; clear hb ho32; obtain ⟨Ao33, co33, eo33⟩ := Kd.N_slice HO657.out; subst eo33) | ((with_reducible refine gate_callee (f := 37) rfl ?_); refine goesL_ (some 50) rfl rfl Try.func37 (by kernel_rfl) rfl #[.slice Ao33 y655.length co33] rfl (by (try simp only [List.map_toArray, List.map_cons, List.map_nil]); first | done | rfl | (simp only [List.length_drop, List.length_take]; rfl)) ?_; (with_reducible refine (octet_Join.calls k _ _ y655 t658 _ ?side1 ?side2 A24.out).mono ?_); (case side1 => exact cE (Kd.N_reads' HO657.out).2.2); (case side2 => exact (Kd.N_reads' HO657.out).2.1); rintro e w34 ⟨v659, rfl, ho0, hb⟩; refine ⟨_, rfl, ?_⟩; replace HO0_9 := Aside0.mk (Kd.V_elder' (by (with_reducible repeat (first | apply Kd.V_alloc | apply Kd.V_drewN | apply Kd.V_drew)); exact HO0_9.out) (Kd.R_base ho0) hb); replace HO0_10 := Aside0.mk (Kd.V_elder' (by (with_reducible repeat (first | apply Kd.V_alloc | apply Kd.V_drewN | apply Kd.V_drew)); exact HO0_10.out) (Kd.R_base ho0) hb); replace HO657 := Aside0.mk (Kd.N_elder' (by (with_reducible repeat (first | apply Kd.N_alloc | apply Kd.N_drewN | apply Kd.N_drew)); exact HO657.out) (Kd.R_base ho0) hb); have HO660 := Aside0.mk (Kd.R_lower (Kd.R_newM (M := fun k_ => (w.heap.size ≤ k_)) ho0 (below_size (pB HB)) (fun k_ h_ => h_)) (below_size (pB HB))); replace BK645 := bbE BK645 hb; replace HB := bstE HB hb; (try clear hb); (try clear hb2); (try clear hk); (try clear hi); (try clear ho0)))
     go_meet
     case rel => exact ⟨_, (t658), H', ⟨by first | omega | exact Nat.le_refl _⟩, ⟨by (with_reducible repeat (first | apply Kd.R_alloc | apply Kd.R_drewN | apply Kd.R_drew)); exact Kd.R_mono HO660.out (fun _ hk => hk.1)⟩, ⟨by (with_reducible repeat (first | apply Kd.V_alloc | apply Kd.V_drewN | apply Kd.V_drew)); exact Kd.V_mono HO0_9.out (fun _ hk => ⟨hk.1.1.1.1.1, ⟨hk.2, hk.1.1.1.1.2⟩⟩)⟩, ⟨by (with_reducible repeat (first | apply Kd.V_alloc | apply Kd.V_drewN | apply Kd.V_drew)); exact Kd.V_mono HO0_10.out (fun _ hk => ⟨hk.1.1.1.1.1, ⟨hk.2, hk.1.1.1.1.2⟩⟩)⟩, ⟨by (with_reducible repeat (first | refine blk_drewN ?_ _ | refine blk_drew ?_ | refine blk_alloc ?_ _)); exact BK645.out⟩, ⟨by repeat (first | (with_reducible first | exact HB.out | apply below_alloc | apply pw_below_drewN | apply below_drew1 | refine below_set ?_ GE645.out) | exact HB.out)⟩⟩
    replace c23 := Bool.eq_false_iff.mpr c23
    subst c23
    have H1 : (packet_Write.j0 k t648 a0_0 false a0_2 a0_3 a0_4 a0_5 a0_6 l0_7 a0_8 l0_9 l0_10 a0_11) = some (r1, r2) := by rw [if_neg (show ¬ (false = true) by decide)] at H; exact H
    clear H
    have H := H1
    clear H1
    have H' := Aside0.mk H
    clear H
    go_wp2
    go_meet
    case rel => exact ⟨_, (t648), H', ⟨by first | omega | exact Nat.le_refl _⟩, ⟨by (with_reducible repeat (first | apply Kd.R_alloc | apply Kd.R_drewN | apply Kd.R_drew)); exact Kd.R_mono HO650.out (fun _ hk => hk.1)⟩, ⟨by (with_reducible repeat (first | apply Kd.V_alloc | apply Kd.V_drewN | apply Kd.V_drew)); exact Kd.V_mono HO0_9.out (fun _ hk => ⟨hk.1.1, ⟨hk.2, hk.1.2⟩⟩)⟩, ⟨by (with_reducible repeat (first | apply Kd.V_alloc | apply Kd.V_drewN | apply Kd.V_drew)); exact Kd.V_mono HO0_10.out (fun _ hk => ⟨hk.1.1, ⟨hk.2, hk.1.2⟩⟩)⟩, ⟨by (with_reducible repeat (first | refine blk_drewN ?_ _ | refine blk_drew ?_ | refine blk_alloc ?_ _)); exact BK645.out⟩, ⟨by repeat (first | (with_reducible first | exact HB.out | apply below_alloc | apply pw_below_drewN | apply below_drew1 | refine below_set ?_ GE645.out) | exact HB.out)⟩⟩
   case rest =>
    clear HC14
    try clear c1
    try clear c2
    try clear p2
    try clear c3
    try clear c4
    try clear c6
    try clear c6b0
    try clear p6
    try clear c13
    try clear c13b0
    try clear c13b1
    try clear c22
    try clear c23
    try clear c27
    try clear Z10_0 Z10_1 Z10_10 Z10_11 Z10_2 Z10_3 Z10_4 Z10_5 Z10_6 Z10_7 Z10_8 Z10_9
    try clear Z16_0 Z16_1 Z16_10 Z16_11 Z16_2 Z16_3 Z16_4 Z16_5 Z16_6 Z16_7 Z16_8 Z16_9
    try clear Z18_0 Z18_1 Z18_10 Z18_11 Z18_2 Z18_3 Z18_4 Z18_5 Z18_6 Z18_7 Z18_8 Z18_9
    try clear Z20_0 Z20_1 Z20_10 Z20_11 Z20_2 Z20_3 Z20_4 Z20_5 Z20_6 Z20_7 Z20_8 Z20_9
    try clear Z22_0 Z22_1 Z22_10 Z22_11 Z22_2 Z22_3 Z22_4 Z22_5 Z22_6 Z22_7 Z22_8 Z22_9
    try clear Z25_0 Z25_1 Z25_10 Z25_11 Z25_2 Z25_3 Z25_4 Z25_5 Z25_6 Z25_7 Z25_8 Z25_9
    try clear Z28_0 Z28_1 Z28_10 Z28_11 Z28_2 Z28_3 Z28_4 Z28_5 Z28_6 Z28_7 Z28_8 Z28_9
    try clear Z8_0 Z8_1 Z8_10 Z8_11 Z8_2 Z8_3 Z8_4 Z8_5 Z8_6 Z8_7 Z8_8 Z8_9
    try clear Y10_0 Y10_1 Y10_10 Y10_11 Y10_2 Y10_3 Y10_4 Y10_5 Y10_6 Y10_7 Y10_8 Y10_9
    try clear Y16_0 Y16_1 Y16_10 Y16_11 Y16_2 Y16_3 Y16_4 Y16_5 Y16_6 Y16_7 Y16_8 Y16_9
    try clear Y18_0 Y18_1 Y18_10 Y18_11 Y18_2 Y18_3 Y18_4 Y18_5 Y18_6 Y18_7 Y18_8 Y18_9
    try clear Y20_0 Y20_1 Y20_10 Y20_11 Y20_2 Y20_3 Y20_4 Y20_5 Y20_6 Y20_7 Y20_8 Y20_9
    try clear Y22_0 Y22_1 Y22_10 Y22_11 Y22_2 Y22_3 Y22_4 Y22_5 Y22_6 Y22_7 Y22_8 Y22_9
    try clear Y25_0 Y25_1 Y25_10 Y25_11 Y25_2 Y25_3 Y25_4 Y25_5 Y25_6 Y25_7 Y25_8 Y25_9
    try clear Y28_0 Y28_1 Y28_10 Y28_11 Y28_2 Y28_3 Y28_4 Y28_5 Y28_6 Y28_7 Y28_8 Y28_9
    try clear Y8_0 Y8_1 Y8_10 Y8_11 Y8_2 Y8_3 Y8_4 Y8_5 Y8_6 Y8_7 Y8_8 Y8_9
    obtain ⟨kq, x6_13, HA, HJ13, HO_6, HO_646009, HO_646010, BK645, HB⟩ := hcut
    cases kq with
    | zero => exact absurd HA.out (by simp [packet_Write.j0])
    | succ kj13 =>
     have H := HA.out
     clear HA
     simp only [packet_Write.j0] at H
     obtain ⟨y661, hy661⟩ : ∃ y_ : List (List Int), y_ = (([x6_13, l0_10] : List (List Int))) := ⟨_, rfl⟩
     replace H : ((octet_Join.f kj13 y661).bind fun t664 => (if a0_0 = true then ((pad_Add.f t664 a0_11).bind fun bt667 => (some (bt667.1, bt667.2))) else (some (t664, 0)))) = some (r1, r2) := by first | (rw [hy661]; with_reducible exact H) | (have H2_ := (Option.bind_some _ _).symm.trans H; rw [hy661]; with_reducible exact H2_) | (have H2_ := (Option.bind_some _ _).symm.trans H; with_reducible exact H2_) | with_reducible exact H | (rw [hy661]; exact H) | exact H
     have Ny661 := Aside0.mk hy661
     clear hy661
     replace H := Option.bind_eq_some_iff.mp H
     obtain ⟨t664, A350, H⟩ := H
     replace H : (if a0_0 = true then ((pad_Add.f t664 a0_11).bind fun bt667 => (some (bt667.1, bt667.2))) else (some (t664, 0))) = some (r1, r2) := H
     have A35 := Aside0.mk A350
     clear A350
     by_cases c36 : a0_0 = true
     ·subst c36
      have H1 : ((pad_Add.f t664 a0_11).bind fun bt667 => (some (bt667.1, bt667.2))) = some (r1, r2) := by rw [if_pos rfl] at H; exact H
      clear H
      have H := H1
      clear H1
      replace H := Option.bind_eq_some_iff.mp H
      obtain ⟨⟨t667, t668⟩, A370, H⟩ := H
      replace H : (some (t667, t668)) = some (r1, r2) := H
      have A37 := Aside0.mk A370
      clear A370
      simp only [Option.some.injEq, Prod.mk.injEq] at H
      obtain ⟨rfl, rfl⟩ := H
      obtain ⟨Z38_0, Z38_1, Z38_2, Z38_3, Z38_4, Z38_5, Z38_6, Z38_7, Z38_8, Z38_9, Z38_10, Z38_11, Y38_0, Y38_1, Y38_2, Y38_3, Y38_4, Y38_5, Y38_6, Y38_7, Y38_8, Y38_9, Y38_10, Y38_11⟩ := bc12 BK645.out
      obtain ⟨Ao39, co39, eo39⟩ := Kd.R_slice HO_6.out
      subst eo39
      go_wp2_with (first | ((with_reducible refine gate_dst (N := 54) rfl ?_); refine Kd.N_lit (Kd.slice 5 (Kd.int .u8)) _ 22 ?hg (N' := 54) ?hd (xs := ([x6_13, l0_10] : List (List Int))) (inner := [.slice Ao39 x6_13.length co39, .slice A0_10 l0_10.length c0_10]) (ok := (fun k_ => ((P0_9_ k_ ∨ P0_10_ k_) ∨ w.heap.size ≤ k_) ∧ k_ ≠ gb645)) (okp := (fun k_ => ((P0_9_ k_ ∨ P0_10_ k_) ∨ w.heap.size ≤ k_) ∧ k_ ≠ gb645)) ?hr ?hp (fun _ hk => hk) ((show ∀ k_, wc.heap.size ≤ k_ → (fun k_ => ((P0_9_ k_ ∨ P0_10_ k_) ∨ w.heap.size ≤ k_) ∧ k_ ≠ gb645) k_ from fun k_ hk => ⟨(.inr (Nat.le_trans (below_size (pB HB)) hk)), Kd.freshB (g := gb645) (o := .cells #[.bool true, .bool a0_1, .bool a0_2, .int .i64 a0_3, .int .u16 a0_4, .int .u32 a0_5, .int .u32 a0_6, .slice A0_7 l0_7.length c0_7, .int .u16 a0_8, .slice A0_9 l0_9.length c0_9, .slice A0_10 l0_10.length c0_10, .int .i64 a0_11] 45 (0, 0)) (pk BK645) k_ hk⟩) _ (Nat.le_refl _)) (Below.refl _ _) (Nat.le_refl _) (by simp) ?_; (case hd => rfl); (case hg => rfl); (case hr => first | (go_simp; done) | (go_simp; rfl)); (case hp => exact (Reps.one (show Kd.FK (Kd.slice 5 (Kd.int .u8)) _ _ x6_13 [.slice Ao39 x6_13.length co39] from (Kd.FK_slice_mk (Kd.R_reads' (Kd.R_mono (ok' := (fun k_ => ((P0_9_ k_ ∨ P0_10_ k_) ∨ w.heap.size ≤ k_) ∧ k_ ≠ gb645)) (Kd.R_types (HO_6.out) BK645.out (by decide)) (fun k_ hk => ⟨(.inr (hk.1)), hk.2⟩))).2.1 (Kd.R_F (Kd.R_mono (ok' := (fun k_ => ((P0_9_ k_ ∨ P0_10_ k_) ∨ w.heap.size ≤ k_) ∧ k_ ≠ gb645)) (Kd.R_types (HO_6.out) BK645.out (by decide)) (fun k_ hk => ⟨(.inr (hk.1)), hk.2⟩))))) (Reps.one (show Kd.FK (Kd.slice 5 (Kd.int .u8)) _ _ l0_10 [.slice A0_10 l0_10.length c0_10] from (Kd.FK_slice_mk (Kd.V_reads' (Kd.V_mono (ok' := (fun k_ => ((P0_9_ k_ ∨ P0_10_ k_) ∨ w.heap.size ≤ k_) ∧ k_ ≠ gb645)) (HO_646010.out) (fun k_ hk => ⟨hk.1, hk.2.2⟩))).2.1 (Kd.V_F (Kd.V_mono (ok' := (fun k_ => ((P0_9_ k_ ∨ P0_10_ k_) ∨ w.heap.size ≤ k_) ∧ k_ ≠ gb645)) (HO_646010.out) (fun k_ hk => ⟨hk.1, hk.2.2⟩))))) (Reps.none _ _)))); intro v662 w40 ho41 hb hg_ hnew_; clear hg_ hnew_; (first | rw [← Ny661.out] at ho41 | (simp only [Int.reduceToNat] at ho41; rw [← Ny661.out] at ho41)); replace HO_646009 := Aside0.mk (Kd.V_elder' (by (with_reducible repeat (first | apply Kd.V_alloc | apply Kd.V_drewN | apply Kd.V_drew)); exact HO_646009.out) (Kd.N_base ho41) hb); replace HO_646010 := Aside0.mk (Kd.V_elder' (by (with_reducible repeat (first | apply Kd.V_alloc | apply Kd.V_drewN | apply Kd.V_drew)); exact HO_646010.out) (Kd.N_base ho41) hb); have HO663 := Aside0.mk (Kd.N_lower ho41 (below_size (pB HB))); replace BK645 := bbE BK645 hb; replace HB := bstE HB hb; clear HO_6; clear hb ho41; obtain ⟨Ao42, co42, eo42⟩ := Kd.N_slice HO663.out; subst eo42) | ((with_reducible refine gate_callee (f := 37) rfl ?_); refine goesL_ (some 55) rfl rfl Try.func37 (by kernel_rfl) rfl #[.slice Ao42 y661.length co42] rfl (by (try simp only [List.map_toArray, List.map_cons, List.map_nil]); first | done | rfl | (simp only [List.length_drop, List.length_take]; rfl)) ?_; (with_reducible refine (octet_Join.calls kj13 _ _ y661 t664 _ ?side1 ?side2 A35.out).mono ?_); (case side1 => exact cE (Kd.N_reads' HO663.out).2.2); (case side2 => exact (Kd.N_reads' HO663.out).2.1); rintro e w43 ⟨v665, rfl, ho0, hb⟩; refine ⟨_, rfl, ?_⟩; replace HO_646009 := Aside0.mk (Kd.V_elder' (by (with_reducible repeat (first | apply Kd.V_alloc | apply Kd.V_drewN | apply Kd.V_drew)); exact HO_646009.out) (Kd.R_base ho0) hb); replace HO_646010 := Aside0.mk (Kd.V_elder' (by (with_reducible repeat (first | apply Kd.V_alloc | apply Kd.V_drewN | apply Kd.V_drew)); exact HO_646010.out) (Kd.R_base ho0) hb); replace HO663 := Aside0.mk (Kd.N_elder' (by (with_reducible repeat (first | apply Kd.N_alloc | apply Kd.N_drewN | apply Kd.N_drew)); exact HO663.out) (Kd.R_base ho0) hb); have HO666 := Aside0.mk (Kd.R_lower (Kd.R_newM (M := fun k_ => (w.heap.size ≤ k_)) ho0 (below_size (pB HB)) (fun k_ h_ => h_)) (below_size (pB HB))); replace BK645 := bbE BK645 hb; replace HB := bstE HB hb; (try clear hb); (try clear hb2); (try clear hk); (try clear hi); (try clear ho0); obtain ⟨Z44_0, Z44_1, Z44_2, Z44_3, Z44_4, Z44_5, Z44_6, Z44_7, Z44_8, Z44_9, Z44_10, Z44_11, Y44_0, Y44_1, Y44_2, Y44_3, Y44_4, Y44_5, Y44_6, Y44_7, Y44_8, Y44_9, Y44_10, Y44_11⟩ := bc12 BK645.out; obtain ⟨Ao45, co45, eo45⟩ := Kd.R_slice HO666.out; subst eo45) | ((with_reducible refine gate_callee (f := 38) rfl ?_); refine goesL_ (some 62) rfl rfl Try.func38 (by kernel_rfl) rfl #[.slice Ao45 t664.length co45, .int .i64 a0_11] rfl (by (try simp only [List.map_toArray, List.map_cons, List.map_nil]); first | done | rfl | (simp only [List.length_drop, List.length_take]; rfl)) ?_; (with_reducible refine (pad_Add.calls _ _ t664 a0_11 t667 t668 _ ?side1 ?side2 A37.out).mono ?_); (case side1 => exact cE (Kd.R_reads' HO666.out).2.2); (case side2 => exact (Kd.R_reads' HO666.out).2.1); rintro e w46 ⟨v669, rfl, ho0, hb⟩; refine ⟨_, rfl, ?_⟩; replace HO_646009 := Aside0.mk (Kd.V_elder' (by (with_reducible repeat (first | apply Kd.V_alloc | apply Kd.V_drewN | apply Kd.V_drew)); exact HO_646009.out) (Kd.R_base ho0) hb); replace HO_646010 := Aside0.mk (Kd.V_elder' (by (with_reducible repeat (first | apply Kd.V_alloc | apply Kd.V_drewN | apply Kd.V_drew)); exact HO_646010.out) (Kd.R_base ho0) hb); replace HO663 := Aside0.mk (Kd.N_elder' (by (with_reducible repeat (first | apply Kd.N_alloc | apply Kd.N_drewN | apply Kd.N_drew)); exact HO663.out) (Kd.R_base ho0) hb); have n3_ := Aside0.mk (Kd.R_elder' (pR HO666) (Kd.R_base ho0) hb); have HO670 := Aside0.mk (Kd.R_lower (Kd.R_new' (Kd.R_newM (M := fun k_ => (w.heap.size ≤ k_)) ho0 (below_size (pB HB)) (fun k_ h_ => h_)) (Kd.R_lt (pR HO666))) (below_size (pB HB))); replace BK645 := bbE BK645 hb; replace HB := bstE HB hb; clear HO666; have HO666 := n3_; clear n3_; (try clear hb); (try clear hb2); (try clear hk); (try clear hi); (try clear ho0)))
      go_ret2
      exact ⟨_, by first | rfl | (simp [errW_none, errW_some] <;> rfl) | (simp [*, errW_none, errW_some] <;> rfl), by (with_reducible repeat (first | apply Kd.R_alloc | apply Kd.R_drewN | apply Kd.R_drew)); exact Kd.R_mono HO670.out (fun _ hk => hk.1.1), by repeat (first | (with_reducible first | exact HB.out | apply below_alloc | apply pw_below_drewN | apply below_drew1 | refine below_set ?_ GE645.out) | exact HB.out)⟩
     replace c36 := Bool.eq_false_iff.mpr c36
     subst c36
     have H1 : (some (t664, 0)) = some (r1, r2) := by rw [if_neg (show ¬ (false = true) by decide)] at H; exact H
     clear H
     have H := H1
     clear H1
     simp only [Option.some.injEq, Prod.mk.injEq] at H
     obtain ⟨rfl, rfl⟩ := H
     obtain ⟨Z47_0, Z47_1, Z47_2, Z47_3, Z47_4, Z47_5, Z47_6, Z47_7, Z47_8, Z47_9, Z47_10, Z47_11, Y47_0, Y47_1, Y47_2, Y47_3, Y47_4, Y47_5, Y47_6, Y47_7, Y47_8, Y47_9, Y47_10, Y47_11⟩ := bc12 BK645.out
     obtain ⟨Ao48, co48, eo48⟩ := Kd.R_slice HO_6.out
     subst eo48
     go_wp2_with (first | ((with_reducible refine gate_dst (N := 54) rfl ?_); refine Kd.N_lit (Kd.slice 5 (Kd.int .u8)) _ 22 ?hg (N' := 54) ?hd (xs := ([x6_13, l0_10] : List (List Int))) (inner := [.slice Ao48 x6_13.length co48, .slice A0_10 l0_10.length c0_10]) (ok := (fun k_ => ((P0_9_ k_ ∨ P0_10_ k_) ∨ w.heap.size ≤ k_) ∧ k_ ≠ gb645)) (okp := (fun k_ => ((P0_9_ k_ ∨ P0_10_ k_) ∨ w.heap.size ≤ k_) ∧ k_ ≠ gb645)) ?hr ?hp (fun _ hk => hk) ((show ∀ k_, wc.heap.size ≤ k_ → (fun k_ => ((P0_9_ k_ ∨ P0_10_ k_) ∨ w.heap.size ≤ k_) ∧ k_ ≠ gb645) k_ from fun k_ hk => ⟨(.inr (Nat.le_trans (below_size (pB HB)) hk)), Kd.freshB (g := gb645) (o := .cells #[.bool false, .bool a0_1, .bool a0_2, .int .i64 a0_3, .int .u16 a0_4, .int .u32 a0_5, .int .u32 a0_6, .slice A0_7 l0_7.length c0_7, .int .u16 a0_8, .slice A0_9 l0_9.length c0_9, .slice A0_10 l0_10.length c0_10, .int .i64 a0_11] 45 (0, 0)) (pk BK645) k_ hk⟩) _ (Nat.le_refl _)) (Below.refl _ _) (Nat.le_refl _) (by simp) ?_; (case hd => rfl); (case hg => rfl); (case hr => first | (go_simp; done) | (go_simp; rfl)); (case hp => exact (Reps.one (show Kd.FK (Kd.slice 5 (Kd.int .u8)) _ _ x6_13 [.slice Ao48 x6_13.length co48] from (Kd.FK_slice_mk (Kd.R_reads' (Kd.R_mono (ok' := (fun k_ => ((P0_9_ k_ ∨ P0_10_ k_) ∨ w.heap.size ≤ k_) ∧ k_ ≠ gb645)) (Kd.R_types (HO_6.out) BK645.out (by decide)) (fun k_ hk => ⟨(.inr (hk.1)), hk.2⟩))).2.1 (Kd.R_F (Kd.R_mono (ok' := (fun k_ => ((P0_9_ k_ ∨ P0_10_ k_) ∨ w.heap.size ≤ k_) ∧ k_ ≠ gb645)) (Kd.R_types (HO_6.out) BK645.out (by decide)) (fun k_ hk => ⟨(.inr (hk.1)), hk.2⟩))))) (Reps.one (show Kd.FK (Kd.slice 5 (Kd.int .u8)) _ _ l0_10 [.slice A0_10 l0_10.length c0_10] from (Kd.FK_slice_mk (Kd.V_reads' (Kd.V_mono (ok' := (fun k_ => ((P0_9_ k_ ∨ P0_10_ k_) ∨ w.heap.size ≤ k_) ∧ k_ ≠ gb645)) (HO_646010.out) (fun k_ hk => ⟨hk.1, hk.2.2⟩))).2.1 (Kd.V_F (Kd.V_mono (ok' := (fun k_ => ((P0_9_ k_ ∨ P0_10_ k_) ∨ w.heap.size ≤ k_) ∧ k_ ≠ gb645)) (HO_646010.out) (fun k_ hk => ⟨hk.1, hk.2.2⟩))))) (Reps.none _ _)))); intro v662 w49 ho50 hb hg_ hnew_; clear hg_ hnew_; (first | rw [← Ny661.out] at ho50 | (simp only [Int.reduceToNat] at ho50; rw [← Ny661.out] at ho50)); replace HO_646009 := Aside0.mk (Kd.V_elder' (by (with_reducible repeat (first | apply Kd.V_alloc | apply Kd.V_drewN | apply Kd.V_drew)); exact HO_646009.out) (Kd.N_base ho50) hb); replace HO_646010 := Aside0.mk (Kd.V_elder' (by (with_reducible repeat (first | apply Kd.V_alloc | apply Kd.V_drewN | apply Kd.V_drew)); exact HO_646010.out) (Kd.N_base ho50) hb); have HO663 := Aside0.mk (Kd.N_lower ho50 (below_size (pB HB))); replace BK645 := bbE BK645 hb; replace HB := bstE HB hb; clear HO_6; clear hb ho50; obtain ⟨Ao51, co51, eo51⟩ := Kd.N_slice HO663.out; subst eo51) | ((with_reducible refine gate_callee (f := 37) rfl ?_); refine goesL_ (some 55) rfl rfl Try.func37 (by kernel_rfl) rfl #[.slice Ao51 y661.length co51] rfl (by (try simp only [List.map_toArray, List.map_cons, List.map_nil]); first | done | rfl | (simp only [List.length_drop, List.length_take]; rfl)) ?_; (with_reducible refine (octet_Join.calls kj13 _ _ y661 t664 _ ?side1 ?side2 A35.out).mono ?_); (case side1 => exact cE (Kd.N_reads' HO663.out).2.2); (case side2 => exact (Kd.N_reads' HO663.out).2.1); rintro e w52 ⟨v665, rfl, ho0, hb⟩; refine ⟨_, rfl, ?_⟩; replace HO_646009 := Aside0.mk (Kd.V_elder' (by (with_reducible repeat (first | apply Kd.V_alloc | apply Kd.V_drewN | apply Kd.V_drew)); exact HO_646009.out) (Kd.R_base ho0) hb); replace HO_646010 := Aside0.mk (Kd.V_elder' (by (with_reducible repeat (first | apply Kd.V_alloc | apply Kd.V_drewN | apply Kd.V_drew)); exact HO_646010.out) (Kd.R_base ho0) hb); replace HO663 := Aside0.mk (Kd.N_elder' (by (with_reducible repeat (first | apply Kd.N_alloc | apply Kd.N_drewN | apply Kd.N_drew)); exact HO663.out) (Kd.R_base ho0) hb); have HO666 := Aside0.mk (Kd.R_lower (Kd.R_newM (M := fun k_ => (w.heap.size ≤ k_)) ho0 (below_size (pB HB)) (fun k_ h_ => h_)) (below_size (pB HB))); replace BK645 := bbE BK645 hb; replace HB := bstE HB hb; (try clear hb); (try clear hb2); (try clear hk); (try clear hi); (try clear ho0); obtain ⟨Z53_0, Z53_1, Z53_2, Z53_3, Z53_4, Z53_5, Z53_6, Z53_7, Z53_8, Z53_9, Z53_10, Z53_11, Y53_0, Y53_1, Y53_2, Y53_3, Y53_4, Y53_5, Y53_6, Y53_7, Y53_8, Y53_9, Y53_10, Y53_11⟩ := bc12 BK645.out))
     go_ret2
     exact ⟨_, by first | rfl | (simp [errW_none, errW_some] <;> rfl) | (simp [*, errW_none, errW_some] <;> rfl), by (with_reducible repeat (first | apply Kd.R_alloc | apply Kd.R_drewN | apply Kd.R_drew)); exact Kd.R_mono HO666.out (fun _ hk => hk.1), by repeat (first | (with_reducible first | exact HB.out | apply below_alloc | apply pw_below_drewN | apply below_drew1 | refine below_set ?_ GE645.out) | exact HB.out)⟩
  rw [if_neg c13] at H
  have c13b0 : (t651 == 0) = false := beq_eq_false_iff_ne.mpr c13
  have c13b1 : (t651 != 0) = true := bne_iff_ne.mpr c13
  simp only [Option.some.injEq, Prod.mk.injEq] at H
  obtain ⟨rfl, rfl⟩ := H
  go_enter Try.func22, Try.ntmps22
  go_wp2_with (first | ((with_reducible refine gate_dst (N := 2) rfl ?_); refine box_event ?hg (N := 2) ?hd (cs := #[.bool a0_0, .bool a0_1, .bool a0_2, .int .i64 a0_3, .int .u16 a0_4, .int .u32 a0_5, .int .u32 a0_6, .slice A0_7 l0_7.length c0_7, .int .u16 a0_8, .slice A0_9 l0_9.length c0_9, .slice A0_10 l0_10.length c0_10, .int .i64 a0_11]) (t := 45) ?hr ?_; (case hd => rfl); (case hg => rfl); (case hr => first | (go_simp; done) | (go_simp; rfl)); intro gb645 hg w54 hbox hb; replace HO0_9 := Aside0.mk (Kd.V_below (Kd.V_elderB (by (with_reducible repeat (first | apply Kd.V_alloc | apply Kd.V_drewN | apply Kd.V_drew)); exact HO0_9.out) gb645 (Nat.le_of_eq hg.symm)) hb); replace HO0_10 := Aside0.mk (Kd.V_below (Kd.V_elderB (by (with_reducible repeat (first | apply Kd.V_alloc | apply Kd.V_drewN | apply Kd.V_drew)); exact HO0_10.out) gb645 (Nat.le_of_eq hg.symm)) hb); have n2_ := bstE HB hb; have BK645 := Aside0.mk (hbox); have GW645 := geE hg HB; have GE645 := geE hg HB; clear HB; have HB := n2_; clear n2_; clear hb hbox hg; obtain ⟨Z55_0, Z55_1, Z55_2, Z55_3, Z55_4, Z55_5, Z55_6, Z55_7, Z55_8, Z55_9, Z55_10, Z55_11, Y55_0, Y55_1, Y55_2, Y55_3, Y55_4, Y55_5, Y55_6, Y55_7, Y55_8, Y55_9, Y55_10, Y55_11⟩ := bc12 BK645.out) | ((with_reducible refine gate_callee (f := 27) rfl ?_); refine goesL_ (some 11) rfl rfl Try.func27 (by kernel_rfl) rfl #[.agg #[.bool a0_0, .bool a0_1, .bool a0_2, .int .i64 a0_3, .int .u16 a0_4, .int .u32 a0_5, .int .u32 a0_6, .slice A0_7 l0_7.length c0_7, .int .u16 a0_8, .slice A0_9 l0_9.length c0_9, .slice A0_10 l0_10.length c0_10, .int .i64 a0_11]] rfl (by (try simp only [List.map_toArray, List.map_cons, List.map_nil]); first | done | rfl | (simp only [List.length_drop, List.length_take]; rfl)) ?_; (with_reducible refine (packet_Right.calls k a0_0 a0_1 a0_2 a0_3 a0_4 a0_5 a0_6 _ _ l0_7 a0_8 _ _ l0_9 _ _ l0_10 a0_11 true _ ?side1 ?side2 ?side3 ?side4 ?side5 ?side6 A3.out).mono ?_); (case side1 => exact cbE HR0_7 HB); (case side2 => exact HC0_7.out); (case side3 => exact cE (Kd.V_reads' HO0_9.out).2.2); (case side4 => exact (Kd.V_reads' HO0_9.out).2.1); (case side5 => exact cE (Kd.V_reads' HO0_10.out).2.2); (case side6 => exact (Kd.V_reads' HO0_10.out).2.1); rintro e w56 ⟨rfl, hb⟩; refine ⟨_, rfl, ?_⟩; replace HO0_9 := Aside0.mk (Kd.V_below (by (with_reducible repeat (first | apply Kd.V_alloc | apply Kd.V_drewN | apply Kd.V_drew)); exact HO0_9.out) hb); replace HO0_10 := Aside0.mk (Kd.V_below (by (with_reducible repeat (first | apply Kd.V_alloc | apply Kd.V_drewN | apply Kd.V_drew)); exact HO0_10.out) hb); replace BK645 := bbE BK645 hb; replace HB := bstE HB hb; (try clear hb); (try clear hb2); (try clear hk); (try clear hi); obtain ⟨Z57_0, Z57_1, Z57_2, Z57_3, Z57_4, Z57_5, Z57_6, Z57_7, Z57_8, Z57_9, Z57_10, Z57_11, Y57_0, Y57_1, Y57_2, Y57_3, Y57_4, Y57_5, Y57_6, Y57_7, Y57_8, Y57_9, Y57_10, Y57_11⟩ := bc12 BK645.out) | ((with_reducible refine gate_callee (f := 35) rfl ?_); refine goesL_ (some 14) rfl rfl Try.func35 (by kernel_rfl) rfl #[.agg #[.bool a0_0, .bool a0_1, .bool a0_2, .int .i64 a0_3, .int .u16 a0_4, .int .u32 a0_5, .int .u32 a0_6, .slice A0_7 l0_7.length c0_7, .int .u16 a0_8, .slice A0_9 l0_9.length c0_9, .slice A0_10 l0_10.length c0_10, .int .i64 a0_11]] rfl (by (try simp only [List.map_toArray, List.map_cons, List.map_nil]); first | done | rfl | (simp only [List.length_drop, List.length_take]; rfl)) ?_; (with_reducible refine (packet_sum.calls a0_0 a0_1 a0_2 a0_3 a0_4 a0_5 a0_6 _ _ l0_7 a0_8 _ _ l0_9 _ _ l0_10 a0_11 t647 _ ?side1 ?side2 ?side3 ?side4 ?side5 ?side6 A5.out).mono ?_); (case side1 => exact cbE HR0_7 HB); (case side2 => exact HC0_7.out); (case side3 => exact cE (Kd.V_reads' HO0_9.out).2.2); (case side4 => exact (Kd.V_reads' HO0_9.out).2.1); (case side5 => exact cE (Kd.V_reads' HO0_10.out).2.2); (case side6 => exact (Kd.V_reads' HO0_10.out).2.1); rintro e w58 ⟨rfl, hb⟩; refine ⟨_, rfl, ?_⟩; replace HO0_9 := Aside0.mk (Kd.V_below (by (with_reducible repeat (first | apply Kd.V_alloc | apply Kd.V_drewN | apply Kd.V_drew)); exact HO0_9.out) hb); replace HO0_10 := Aside0.mk (Kd.V_below (by (with_reducible repeat (first | apply Kd.V_alloc | apply Kd.V_drewN | apply Kd.V_drew)); exact HO0_10.out) hb); replace BK645 := bbE BK645 hb; replace HB := bstE HB hb; (try clear hb); (try clear hb2); (try clear hk); (try clear hi); obtain ⟨Z59_0, Z59_1, Z59_2, Z59_3, Z59_4, Z59_5, Z59_6, Z59_7, Z59_8, Z59_9, Z59_10, Z59_11, Y59_0, Y59_1, Y59_2, Y59_3, Y59_4, Y59_5, Y59_6, Y59_7, Y59_8, Y59_9, Y59_10, Y59_11⟩ := bc12 BK645.out) | ((with_reducible refine gate_callee (f := 36) rfl ?_); refine goesL_ (some 20) rfl rfl Try.func36 (by kernel_rfl) rfl #[.agg #[.bool a0_0, .bool a0_1, .bool a0_2, .int .i64 a0_3, .int .u16 a0_4, .int .u32 a0_5, .int .u32 a0_6, .slice A0_7 l0_7.length c0_7]] rfl (by (try simp only [List.map_toArray, List.map_cons, List.map_nil]); first | done | rfl | (simp only [List.length_drop, List.length_take]; rfl)) ?_; (with_reducible refine (head_Write.calls k a0_0 a0_1 a0_2 a0_3 a0_4 a0_5 a0_6 _ _ l0_7 t648 t651 _ ?side1 ?side2 A12.out).mono ?_); (case side1 => exact cbE HR0_7 HB); (case side2 => exact HC0_7.out); rintro e w60 ⟨v649, rfl, ho0, hb⟩; refine ⟨_, rfl, ?_⟩; replace HO0_9 := Aside0.mk (Kd.V_elder' (by (with_reducible repeat (first | apply Kd.V_alloc | apply Kd.V_drewN | apply Kd.V_drew)); exact HO0_9.out) (Kd.R_base ho0) hb); replace HO0_10 := Aside0.mk (Kd.V_elder' (by (with_reducible repeat (first | apply Kd.V_alloc | apply Kd.V_drewN | apply Kd.V_drew)); exact HO0_10.out) (Kd.R_base ho0) hb); have HO650 := Aside0.mk (Kd.R_lower (Kd.R_newM (M := fun k_ => (w.heap.size ≤ k_)) ho0 (below_size (pB HB)) (fun k_ h_ => h_)) (below_size (pB HB))); replace BK645 := bbE BK645 hb; replace HB := bstE HB hb; (try clear hb); (try clear hb2); (try clear hk); (try clear hi); (try clear ho0)))
  go_ret2
  exact ⟨_, by first | rfl | (simp [errW_none, errW_some] <;> rfl) | (simp [*, errW_none, errW_some] <;> rfl), by first | exact Kd.R_nil _ _ _ _ _ | exact Kd.N_nil _ _ _ _ _ | exact Kd.V_nil _ _ _ _ _ | exact Kd.Q_nil _ _ _ _ _ | exact Kd.S_nil _ _ _ _ _, by repeat (first | (with_reducible first | exact HB.out | apply below_alloc | apply pw_below_drewN | apply below_drew1 | refine below_set ?_ GE645.out) | exact HB.out)⟩
 replace c4 := Bool.eq_false_iff.mpr c4
 subst c4
 have H1 : (some (([] : List Int), 1)) = some (r1, r2) := by rw [if_neg (show ¬ (false = true) by decide)] at H; exact H
 clear H
 have H := H1
 clear H1
 simp only [Option.some.injEq, Prod.mk.injEq] at H
 obtain ⟨rfl, rfl⟩ := H
 go_enter Try.func22, Try.ntmps22
 go_wp2_with (first | ((with_reducible refine gate_dst (N := 2) rfl ?_); refine box_event ?hg (N := 2) ?hd (cs := #[.bool a0_0, .bool a0_1, .bool a0_2, .int .i64 a0_3, .int .u16 a0_4, .int .u32 a0_5, .int .u32 a0_6, .slice A0_7 l0_7.length c0_7, .int .u16 a0_8, .slice A0_9 l0_9.length c0_9, .slice A0_10 l0_10.length c0_10, .int .i64 a0_11]) (t := 45) ?hr ?_; (case hd => rfl); (case hg => rfl); (case hr => first | (go_simp; done) | (go_simp; rfl)); intro gb645 hg w61 hbox hb; replace HO0_9 := Aside0.mk (Kd.V_below (Kd.V_elderB (by (with_reducible repeat (first | apply Kd.V_alloc | apply Kd.V_drewN | apply Kd.V_drew)); exact HO0_9.out) gb645 (Nat.le_of_eq hg.symm)) hb); replace HO0_10 := Aside0.mk (Kd.V_below (Kd.V_elderB (by (with_reducible repeat (first | apply Kd.V_alloc | apply Kd.V_drewN | apply Kd.V_drew)); exact HO0_10.out) gb645 (Nat.le_of_eq hg.symm)) hb); have n2_ := bstE HB hb; have BK645 := Aside0.mk (hbox); have GW645 := geE hg HB; have GE645 := geE hg HB; clear HB; have HB := n2_; clear n2_; clear hb hbox hg; obtain ⟨Z62_0, Z62_1, Z62_2, Z62_3, Z62_4, Z62_5, Z62_6, Z62_7, Z62_8, Z62_9, Z62_10, Z62_11, Y62_0, Y62_1, Y62_2, Y62_3, Y62_4, Y62_5, Y62_6, Y62_7, Y62_8, Y62_9, Y62_10, Y62_11⟩ := bc12 BK645.out) | ((with_reducible refine gate_callee (f := 27) rfl ?_); refine goesL_ (some 11) rfl rfl Try.func27 (by kernel_rfl) rfl #[.agg #[.bool a0_0, .bool a0_1, .bool a0_2, .int .i64 a0_3, .int .u16 a0_4, .int .u32 a0_5, .int .u32 a0_6, .slice A0_7 l0_7.length c0_7, .int .u16 a0_8, .slice A0_9 l0_9.length c0_9, .slice A0_10 l0_10.length c0_10, .int .i64 a0_11]] rfl (by (try simp only [List.map_toArray, List.map_cons, List.map_nil]); first | done | rfl | (simp only [List.length_drop, List.length_take]; rfl)) ?_; (with_reducible refine (packet_Right.calls k a0_0 a0_1 a0_2 a0_3 a0_4 a0_5 a0_6 _ _ l0_7 a0_8 _ _ l0_9 _ _ l0_10 a0_11 false _ ?side1 ?side2 ?side3 ?side4 ?side5 ?side6 A3.out).mono ?_); (case side1 => exact cbE HR0_7 HB); (case side2 => exact HC0_7.out); (case side3 => exact cE (Kd.V_reads' HO0_9.out).2.2); (case side4 => exact (Kd.V_reads' HO0_9.out).2.1); (case side5 => exact cE (Kd.V_reads' HO0_10.out).2.2); (case side6 => exact (Kd.V_reads' HO0_10.out).2.1); rintro e w63 ⟨rfl, hb⟩; refine ⟨_, rfl, ?_⟩; replace HO0_9 := Aside0.mk (Kd.V_below (by (with_reducible repeat (first | apply Kd.V_alloc | apply Kd.V_drewN | apply Kd.V_drew)); exact HO0_9.out) hb); replace HO0_10 := Aside0.mk (Kd.V_below (by (with_reducible repeat (first | apply Kd.V_alloc | apply Kd.V_drewN | apply Kd.V_drew)); exact HO0_10.out) hb); replace BK645 := bbE BK645 hb; replace HB := bstE HB hb; (try clear hb); (try clear hb2); (try clear hk); (try clear hi)))
 go_ret2
 exact ⟨_, by first | rfl | (simp [errW_none, errW_some] <;> rfl) | (simp [*, errW_none, errW_some] <;> rfl), by first | exact Kd.R_nil _ _ _ _ _ | exact Kd.N_nil _ _ _ _ _ | exact Kd.V_nil _ _ _ _ _ | exact Kd.Q_nil _ _ _ _ _ | exact Kd.S_nil _ _ _ _ _, by repeat (first | (with_reducible first | exact HB.out | apply below_alloc | apply pw_below_drewN | apply below_drew1 | refine below_set ?_ GE645.out) | exact HB.out)⟩
def packet_Size.f (k : Nat) (a0_0 : Bool) (a0_1 : Bool) (a0_2 : Bool) (a0_3 : Int) (a0_4 : Int) (a0_5 : Int) (a0_6 : Int) (l0_7 : List Int) (a0_8 : Int) (l0_9 : List Int) (l0_10 : List Int) (a0_11 : Int) : Option (Int) := (packet_Right.f k a0_0 a0_1 a0_2 a0_3 a0_4 a0_5 a0_6 l0_7 a0_8 l0_9 l0_10 a0_11).bind fun t672 => (if t672 = true then ((packet_sum.f a0_0 a0_1 a0_2 a0_3 a0_4 a0_5 a0_6 l0_7 a0_8 l0_9 l0_10 a0_11).bind fun t673 => (some t673)) else (some 0))
theorem packet_Size.mono : ∀ a0 a1 a2 a3 a4 a5 a6 a7 a8 a9 a10 a11 k, LeO (packet_Size.f k a0 a1 a2 a3 a4 a5 a6 a7 a8 a9 a10 a11) (packet_Size.f (k + 1) a0 a1 a2 a3 a4 a5 a6 a7 a8 a9 a10 a11) := by
 intro a0 a1 a2 a3 a4 a5 a6 a7 a8 a9 a10 a11 k
 unfold packet_Size.f
 repeat' first
   | (with_reducible exact packet_Right.mono _ _ _ _ _ _ _ _ _ _ _ _ _)
   | (with_reducible exact LeO.refl _)
   | (with_reducible exact LeO.none _)
   | (with_reducible refine LeO.ite ?_ ?_)
   | (with_reducible refine LeO.bind ?_ (fun _ => ?_))
   | exact packet_Right.mono _ _ _ _ _ _ _ _ _ _ _ _ _
   | exact LeO.none _
   | refine LeO.ite ?_ ?_
   | refine LeO.bind ?_ (fun _ => ?_)
set_option maxHeartbeats 8000000 in
set_option maxRecDepth 100000 in
theorem packet_Size.calls (k : Nat) (a0_0 : Bool) (a0_1 : Bool) (a0_2 : Bool) (a0_3 : Int) (a0_4 : Int) (a0_5 : Int) (a0_6 : Int) (A0_7 : Option Addr) (c0_7 : Nat) (l0_7 : List Int) (a0_8 : Int) (A0_9 : Option Addr) (c0_9 : Nat) (l0_9 : List Int) (A0_10 : Option Addr) (c0_10 : Nat) (l0_10 : List Int) (a0_11 : Int) (r : Int) (w : World) (hr0_7 : Kd.C (Kd.int .u32) w A0_7 l0_7.length l0_7) (hc0_7 : l0_7.length ≤ c0_7) (hr0_9 : Kd.C (Kd.int .u8) w A0_9 l0_9.length l0_9) (hc0_9 : l0_9.length ≤ c0_9) (hr0_10 : Kd.C (Kd.int .u8) w A0_10 l0_10.length l0_10) (hc0_10 : l0_10.length ≤ c0_10) (h : packet_Size.f k a0_0 a0_1 a0_2 a0_3 a0_4 a0_5 a0_6 l0_7 a0_8 l0_9 l0_10 a0_11 = some r) :
  Calls Try.prog 23 #[.agg #[.bool a0_0, .bool a0_1, .bool a0_2, .int .i64 a0_3, .int .u16 a0_4, .int .u32 a0_5, .int .u32 a0_6, .slice A0_7 l0_7.length c0_7, .int .u16 a0_8, .slice A0_9 l0_9.length c0_9, .slice A0_10 l0_10.length c0_10, .int .i64 a0_11]] w fun e w' => e = .returned (.int .i64 r) ∧ Below w.heap.size w w' := by
 have hu45 := Try.underlying45
 have HR0_7 := Aside0.mk hr0_7
 have HC0_7 := Aside0.mk hc0_7
 clear hr0_7 hc0_7
 have HR0_9 := Aside0.mk hr0_9
 have HC0_9 := Aside0.mk hc0_9
 clear hr0_9 hc0_9
 have HR0_10 := Aside0.mk hr0_10
 have HC0_10 := Aside0.mk hc0_10
 clear hr0_10 hc0_10
 have HB := Aside0.mk (Below.refl w.heap.size w)
 have H : ((packet_Right.f k a0_0 a0_1 a0_2 a0_3 a0_4 a0_5 a0_6 l0_7 a0_8 l0_9 l0_10 a0_11).bind fun t672 => (if t672 = true then ((packet_sum.f a0_0 a0_1 a0_2 a0_3 a0_4 a0_5 a0_6 l0_7 a0_8 l0_9 l0_10 a0_11).bind fun t673 => (some t673)) else (some 0))) = some r := h
 clear h
 replace H := Option.bind_eq_some_iff.mp H
 obtain ⟨t672, A20, H⟩ := H
 replace H : (if t672 = true then ((packet_sum.f a0_0 a0_1 a0_2 a0_3 a0_4 a0_5 a0_6 l0_7 a0_8 l0_9 l0_10 a0_11).bind fun t673 => (some t673)) else (some 0)) = some r := H
 have A2 := Aside0.mk A20
 clear A20
 by_cases c3 : t672 = true
 ·subst c3
  have H1 : ((packet_sum.f a0_0 a0_1 a0_2 a0_3 a0_4 a0_5 a0_6 l0_7 a0_8 l0_9 l0_10 a0_11).bind fun t673 => (some t673)) = some r := by rw [if_pos rfl] at H; exact H
  clear H
  have H := H1
  clear H1
  replace H := Option.bind_eq_some_iff.mp H
  obtain ⟨t673, A40, H⟩ := H
  replace H : (some t673) = some r := H
  have A4 := Aside0.mk A40
  clear A40
  obtain rfl := Option.some.inj H
  go_enter Try.func23, Try.ntmps23
  go_wp2_with (first | ((with_reducible refine gate_dst (N := 1) rfl ?_); refine box_event ?hg (N := 1) ?hd (cs := #[.bool a0_0, .bool a0_1, .bool a0_2, .int .i64 a0_3, .int .u16 a0_4, .int .u32 a0_5, .int .u32 a0_6, .slice A0_7 l0_7.length c0_7, .int .u16 a0_8, .slice A0_9 l0_9.length c0_9, .slice A0_10 l0_10.length c0_10, .int .i64 a0_11]) (t := 45) ?hr ?_; (case hd => rfl); (case hg => rfl); (case hr => first | (go_simp; done) | (go_simp; rfl)); intro gb671 hg w5 hbox hb; have n0_ := bstE HB hb; have BK671 := Aside0.mk (hbox); have GW671 := geE hg HB; have GE671 := geE hg HB; clear HB; have HB := n0_; clear n0_; clear hb hbox hg; obtain ⟨Z6_0, Z6_1, Z6_2, Z6_3, Z6_4, Z6_5, Z6_6, Z6_7, Z6_8, Z6_9, Z6_10, Z6_11, Y6_0, Y6_1, Y6_2, Y6_3, Y6_4, Y6_5, Y6_6, Y6_7, Y6_8, Y6_9, Y6_10, Y6_11⟩ := bc12 BK671.out) | ((with_reducible refine gate_callee (f := 27) rfl ?_); refine goesL_ (some 4) rfl rfl Try.func27 (by kernel_rfl) rfl #[.agg #[.bool a0_0, .bool a0_1, .bool a0_2, .int .i64 a0_3, .int .u16 a0_4, .int .u32 a0_5, .int .u32 a0_6, .slice A0_7 l0_7.length c0_7, .int .u16 a0_8, .slice A0_9 l0_9.length c0_9, .slice A0_10 l0_10.length c0_10, .int .i64 a0_11]] rfl (by (try simp only [List.map_toArray, List.map_cons, List.map_nil]); first | done | rfl | (simp only [List.length_drop, List.length_take]; rfl)) ?_; (with_reducible refine (packet_Right.calls k a0_0 a0_1 a0_2 a0_3 a0_4 a0_5 a0_6 _ _ l0_7 a0_8 _ _ l0_9 _ _ l0_10 a0_11 true _ ?side1 ?side2 ?side3 ?side4 ?side5 ?side6 A2.out).mono ?_); (case side1 => exact cbE HR0_7 HB); (case side2 => exact HC0_7.out); (case side3 => exact cbE HR0_9 HB); (case side4 => exact HC0_9.out); (case side5 => exact cbE HR0_10 HB); (case side6 => exact HC0_10.out); rintro e w7 ⟨rfl, hb⟩; refine ⟨_, rfl, ?_⟩; replace BK671 := bbE BK671 hb; replace HB := bstE HB hb; (try clear hb); (try clear hb2); (try clear hk); (try clear hi); obtain ⟨Z8_0, Z8_1, Z8_2, Z8_3, Z8_4, Z8_5, Z8_6, Z8_7, Z8_8, Z8_9, Z8_10, Z8_11, Y8_0, Y8_1, Y8_2, Y8_3, Y8_4, Y8_5, Y8_6, Y8_7, Y8_8, Y8_9, Y8_10, Y8_11⟩ := bc12 BK671.out) | ((with_reducible refine gate_callee (f := 35) rfl ?_); refine goesL_ (some 7) rfl rfl Try.func35 (by kernel_rfl) rfl #[.agg #[.bool a0_0, .bool a0_1, .bool a0_2, .int .i64 a0_3, .int .u16 a0_4, .int .u32 a0_5, .int .u32 a0_6, .slice A0_7 l0_7.length c0_7, .int .u16 a0_8, .slice A0_9 l0_9.length c0_9, .slice A0_10 l0_10.length c0_10, .int .i64 a0_11]] rfl (by (try simp only [List.map_toArray, List.map_cons, List.map_nil]); first | done | rfl | (simp only [List.length_drop, List.length_take]; rfl)) ?_; (with_reducible refine (packet_sum.calls a0_0 a0_1 a0_2 a0_3 a0_4 a0_5 a0_6 _ _ l0_7 a0_8 _ _ l0_9 _ _ l0_10 a0_11 t673 _ ?side1 ?side2 ?side3 ?side4 ?side5 ?side6 A4.out).mono ?_); (case side1 => exact cbE HR0_7 HB); (case side2 => exact HC0_7.out); (case side3 => exact cbE HR0_9 HB); (case side4 => exact HC0_9.out); (case side5 => exact cbE HR0_10 HB); (case side6 => exact HC0_10.out); rintro e w9 ⟨rfl, hb⟩; refine ⟨_, rfl, ?_⟩; replace BK671 := bbE BK671 hb; replace HB := bstE HB hb; (try clear hb); (try clear hb2); (try clear hk); (try clear hi)))
  go_ret
  exact ⟨by first | rfl | (simp [errW_none, errW_some] <;> rfl) | (simp [*, errW_none, errW_some] <;> rfl), by repeat (first | (with_reducible first | exact HB.out | apply below_alloc | apply pw_below_drewN | apply below_drew1 | refine below_set ?_ GE671.out) | exact HB.out)⟩
 replace c3 := Bool.eq_false_iff.mpr c3
 subst c3
 have H1 : (some 0) = some r := by rw [if_neg (show ¬ (false = true) by decide)] at H; exact H
 clear H
 have H := H1
 clear H1
 obtain rfl := Option.some.inj H
 go_enter Try.func23, Try.ntmps23
 go_wp2_with (first | ((with_reducible refine gate_dst (N := 1) rfl ?_); refine box_event ?hg (N := 1) ?hd (cs := #[.bool a0_0, .bool a0_1, .bool a0_2, .int .i64 a0_3, .int .u16 a0_4, .int .u32 a0_5, .int .u32 a0_6, .slice A0_7 l0_7.length c0_7, .int .u16 a0_8, .slice A0_9 l0_9.length c0_9, .slice A0_10 l0_10.length c0_10, .int .i64 a0_11]) (t := 45) ?hr ?_; (case hd => rfl); (case hg => rfl); (case hr => first | (go_simp; done) | (go_simp; rfl)); intro gb671 hg w10 hbox hb; have n0_ := bstE HB hb; have BK671 := Aside0.mk (hbox); have GW671 := geE hg HB; have GE671 := geE hg HB; clear HB; have HB := n0_; clear n0_; clear hb hbox hg; obtain ⟨Z11_0, Z11_1, Z11_2, Z11_3, Z11_4, Z11_5, Z11_6, Z11_7, Z11_8, Z11_9, Z11_10, Z11_11, Y11_0, Y11_1, Y11_2, Y11_3, Y11_4, Y11_5, Y11_6, Y11_7, Y11_8, Y11_9, Y11_10, Y11_11⟩ := bc12 BK671.out) | ((with_reducible refine gate_callee (f := 27) rfl ?_); refine goesL_ (some 4) rfl rfl Try.func27 (by kernel_rfl) rfl #[.agg #[.bool a0_0, .bool a0_1, .bool a0_2, .int .i64 a0_3, .int .u16 a0_4, .int .u32 a0_5, .int .u32 a0_6, .slice A0_7 l0_7.length c0_7, .int .u16 a0_8, .slice A0_9 l0_9.length c0_9, .slice A0_10 l0_10.length c0_10, .int .i64 a0_11]] rfl (by (try simp only [List.map_toArray, List.map_cons, List.map_nil]); first | done | rfl | (simp only [List.length_drop, List.length_take]; rfl)) ?_; (with_reducible refine (packet_Right.calls k a0_0 a0_1 a0_2 a0_3 a0_4 a0_5 a0_6 _ _ l0_7 a0_8 _ _ l0_9 _ _ l0_10 a0_11 false _ ?side1 ?side2 ?side3 ?side4 ?side5 ?side6 A2.out).mono ?_); (case side1 => exact cbE HR0_7 HB); (case side2 => exact HC0_7.out); (case side3 => exact cbE HR0_9 HB); (case side4 => exact HC0_9.out); (case side5 => exact cbE HR0_10 HB); (case side6 => exact HC0_10.out); rintro e w12 ⟨rfl, hb⟩; refine ⟨_, rfl, ?_⟩; replace BK671 := bbE BK671 hb; replace HB := bstE HB hb; (try clear hb); (try clear hb2); (try clear hk); (try clear hi)))
 go_ret
 exact ⟨by first | rfl | (simp [errW_none, errW_some] <;> rfl) | (simp [*, errW_none, errW_some] <;> rfl), by repeat (first | (with_reducible first | exact HB.out | apply below_alloc | apply pw_below_drewN | apply below_drew1 | refine below_set ?_ GE671.out) | exact HB.out)⟩
def pad_Zero.l0 : Nat → List Int → Int → Int → Option (Bool)
 | 0, _, _, _ => none
 | k + 1, x5, x6, x7 => if x7 < x6 then (if 0 ≤ x7 then (if x7 < (x5.length : Int) then (if (rd x5 x7) = 0 then (pad_Zero.l0 k x5 x6 (wrap64 (x7 + 1))) else (some false)) else (none)) else (none)) else (some true)
def pad_Zero.f (k : Nat) (l0 : List Int) : Option (Bool) := pad_Zero.l0 k l0 (l0.length : Int) 0
theorem pad_Zero.mono_l : ∀ k, (∀ y0 y1 y2, LeO (pad_Zero.l0 k y0 y1 y2) (pad_Zero.l0 (k + 1) y0 y1 y2))
 | 0 => fun _ _ _ r h => by simp [pad_Zero.l0] at h
 | k + 1 => by
  have ih0 := pad_Zero.mono_l k
  intro y0 y1 y2
  unfold pad_Zero.l0
  repeat' first
  | (with_reducible exact ih0 _ _ _)
  | (with_reducible exact LeO.refl _)
  | (with_reducible exact LeO.none _)
  | (with_reducible refine LeO.ite ?_ ?_)
  | (with_reducible refine LeO.bind ?_ (fun _ => ?_))
  | exact ih0 _ _ _
  | exact LeO.none _
  | refine LeO.ite ?_ ?_
  | refine LeO.bind ?_ (fun _ => ?_)
theorem pad_Zero.mono : ∀ a0 k, LeO (pad_Zero.f k a0) (pad_Zero.f (k + 1) a0) := by
 intro a0 k
 have ih0 := pad_Zero.mono_l k
 unfold pad_Zero.f
 repeat' first
   | (with_reducible exact ih0 _ _ _)
   | (with_reducible exact LeO.refl _)
   | (with_reducible exact LeO.none _)
   | (with_reducible refine LeO.ite ?_ ?_)
   | (with_reducible refine LeO.bind ?_ (fun _ => ?_))
   | exact ih0 _ _ _
   | exact LeO.none _
   | refine LeO.ite ?_ ?_
   | refine LeO.bind ?_ (fun _ => ?_)
set_option maxHeartbeats 8000000 in
set_option maxRecDepth 100000 in
theorem pad_Zero.calls (k : Nat) (A0 : Option Addr) (c0 : Nat) (l0 : List Int) (r : Bool) (w : World) (hr0 : Kd.C (Kd.int .u8) w A0 l0.length l0) (hc0 : l0.length ≤ c0) (h : pad_Zero.f k l0 = some r) :
  Calls Try.prog 56 #[.slice A0 l0.length c0] w fun e w' => e = .returned (.bool r) ∧ Drawn0 w w' := by
 have HR0 := Aside0.mk hr0
 have HC0 := Aside0.mk hc0
 clear hr0 hc0
 have H : (pad_Zero.l0 k l0 (l0.length : Int) 0) = some r := h
 clear h
 have H' := Aside0.mk H
 clear H
 go_enter Try.func56, Try.ntmps56
 go_wp2
 go_loopg [7] k (fun kq v7 w' => ∃ (x7_1 : Int), v7 = .int .i64 x7_1 ∧ Aside0 (pad_Zero.l0 kq l0 (l0.length : Int) x7_1 = some r) ∧ Aside0 (kq ≤ k) ∧ Drawn0 w w')
 case atStart => exact ⟨(0), (by first | rfl | (simp; done) | (simp [*]; done)), H', ⟨Nat.le_refl _⟩, by repeat (first | exact Drawn0.refl _ | apply Drawn0.step)⟩
 case round =>
  clear H'
  obtain ⟨x7_1, rfl, HA, HK1, ⟨m1, rfl⟩⟩ := hrel
  cases gk with
  | zero => exact absurd HA.out (by simp [pad_Zero.l0])
  | succ k1 =>
   have H := HA.out
   clear HA
   simp only [pad_Zero.l0] at H
   by_cases c2 : x7_1 < (l0.length : Int)
   ·rw [if_pos c2] at H
    have c2b0 : decide (x7_1 < (l0.length : Int)) = true := decide_eq_true c2
    clear c2
    by_cases c3 : 0 ≤ x7_1
    ·rw [if_pos c3] at H
     have c3b0 : decide (0 ≤ x7_1) = true := decide_eq_true c3
     clear c3
     by_cases c4 : x7_1 < (l0.length : Int)
     ·rw [if_pos c4] at H
      have c4b0 : decide (x7_1 < (l0.length : Int)) = true := decide_eq_true c4
      clear c4
      by_cases c5 : (rd l0 x7_1) = 0
      ·rw [if_pos c5] at H
       have c5b0 : ((rd l0 x7_1) == 0) = true := beq_iff_eq.mpr c5
       have c5b1 : ((rd l0 x7_1) != 0) = false := bne_eq_false_iff_eq.mpr c5
       clear c5
       have H' := Aside0.mk H
       clear H
       have p674 : 0 ≤ (x7_1 : Int) := of_decide_eq_true (by first | (with_reducible assumption) | assumption)
       have q674 : x7_1 < (l0.length : Int) := of_decide_eq_true (by first | (with_reducible assumption) | assumption)
       obtain ⟨ad674, e674, hx674_0⟩ := Kd.at_int HR0.out x7_1 p674 q674
       cases e674
       replace p674 := eq_true p674
       replace q674 := eq_true q674
       go_wp2
       go_roundg k1
       case measure => have := HK1.out; omega
       case rel => exact ⟨(wrap64 (x7_1 + 1)), (by first | rfl | (simp; done) | (simp [*]; done)), H', ⟨by have := HK1.out; omega⟩, by repeat (first | exact Drawn0.refl _ | apply Drawn0.step)⟩
      rw [if_neg c5] at H
      have c5b0 : ((rd l0 x7_1) == 0) = false := beq_eq_false_iff_ne.mpr c5
      have c5b1 : ((rd l0 x7_1) != 0) = true := bne_iff_ne.mpr c5
      obtain rfl := Option.some.inj H
      have p674 : 0 ≤ (x7_1 : Int) := of_decide_eq_true (by first | (with_reducible assumption) | assumption)
      have q674 : x7_1 < (l0.length : Int) := of_decide_eq_true (by first | (with_reducible assumption) | assumption)
      obtain ⟨ad674, e674, hx674_0⟩ := Kd.at_int HR0.out x7_1 p674 q674
      cases e674
      replace p674 := eq_true p674
      replace q674 := eq_true q674
      go_wp2
      go_ret
      exact ⟨by first | rfl | (simp; done) | (simp [*]; done), by repeat (first | exact Drawn0.refl _ | apply Drawn0.step)⟩
     rw [if_neg c4] at H
     exact absurd H (by simp)
    rw [if_neg c3] at H
    exact absurd H (by simp)
   rw [if_neg c2] at H
   have c2b0 : decide (x7_1 < (l0.length : Int)) = false := decide_eq_false c2
   clear c2
   obtain rfl := Option.some.inj H
   go_wp2
   go_ret
   exact ⟨by first | rfl | (simp; done) | (simp [*]; done), by repeat (first | exact Drawn0.refl _ | apply Drawn0.step)⟩
def pad_Clean.f (k : Nat) (l0 : List Int) : Option (Bool) := (pad_Trail.f l0).bind fun bt675 => (if bt675.2 = 0 then (if 0 ≤ (wrap64 ((l0.length : Int) - bt675.1)) then (if (wrap64 ((l0.length : Int) - bt675.1)) ≤ (wrap64 ((l0.length : Int) - 1)) then (if (wrap64 ((l0.length : Int) - 1)) ≤ (l0.length : Int) then ((pad_Zero.f k ((l0.take ((wrap64 ((l0.length : Int) - 1)) : Int).toNat).drop ((wrap64 ((l0.length : Int) - bt675.1)) : Int).toNat)).bind fun t678 => (some t678)) else (none)) else (none)) else (none)) else (some false))
theorem pad_Clean.mono : ∀ a0 k, LeO (pad_Clean.f k a0) (pad_Clean.f (k + 1) a0) := by
 intro a0 k
 unfold pad_Clean.f
 repeat' first
   | (with_reducible exact pad_Zero.mono _ _)
   | (with_reducible exact LeO.refl _)
   | (with_reducible exact LeO.none _)
   | (with_reducible refine LeO.ite ?_ ?_)
   | (with_reducible refine LeO.bind ?_ (fun _ => ?_))
   | exact pad_Zero.mono _ _
   | exact LeO.none _
   | refine LeO.ite ?_ ?_
   | refine LeO.bind ?_ (fun _ => ?_)
set_option maxHeartbeats 8000000 in
set_option maxRecDepth 100000 in
theorem pad_Clean.calls (k : Nat) (A0 : Option Addr) (c0 : Nat) (l0 : List Int) (r : Bool) (w : World) (hr0 : Kd.C (Kd.int .u8) w A0 l0.length l0) (hc0 : l0.length ≤ c0) (h : pad_Clean.f k l0 = some r) :
  Calls Try.prog 46 #[.slice A0 l0.length c0] w fun e w' => e = .returned (.bool r) ∧ Drawn0 w w' := by
 have HR0 := Aside0.mk hr0
 have HC0 := Aside0.mk hc0
 clear hr0 hc0
 have H : ((pad_Trail.f l0).bind fun bt675 => (if bt675.2 = 0 then (if 0 ≤ (wrap64 ((l0.length : Int) - bt675.1)) then (if (wrap64 ((l0.length : Int) - bt675.1)) ≤ (wrap64 ((l0.length : Int) - 1)) then (if (wrap64 ((l0.length : Int) - 1)) ≤ (l0.length : Int) then ((pad_Zero.f k ((l0.take ((wrap64 ((l0.length : Int) - 1)) : Int).toNat).drop ((wrap64 ((l0.length : Int) - bt675.1)) : Int).toNat)).bind fun t678 => (some t678)) else (none)) else (none)) else (none)) else (some false))) = some r := h
 clear h
 replace H := Option.bind_eq_some_iff.mp H
 obtain ⟨⟨t675, t676⟩, A20, H⟩ := H
 replace H : (if t676 = 0 then (if 0 ≤ (wrap64 ((l0.length : Int) - t675)) then (if (wrap64 ((l0.length : Int) - t675)) ≤ (wrap64 ((l0.length : Int) - 1)) then (if (wrap64 ((l0.length : Int) - 1)) ≤ (l0.length : Int) then ((pad_Zero.f k ((l0.take ((wrap64 ((l0.length : Int) - 1)) : Int).toNat).drop ((wrap64 ((l0.length : Int) - t675)) : Int).toNat)).bind fun t678 => (some t678)) else (none)) else (none)) else (none)) else (some false)) = some r := H
 have A2 := Aside0.mk A20
 clear A20
 by_cases c3 : t676 = 0
 ·rw [if_pos c3] at H
  have c3b0 : (t676 == 0) = true := beq_iff_eq.mpr c3
  have c3b1 : (t676 != 0) = false := bne_eq_false_iff_eq.mpr c3
  clear c3
  obtain ⟨ji4, hji4⟩ : ∃ j_ : Int, (wrap64 ((l0.length : Int) - t675)) = j_ := ⟨_, rfl⟩
  replace H : (if 0 ≤ (ji4) then (if (ji4) ≤ (wrap64 ((l0.length : Int) - 1)) then (if (wrap64 ((l0.length : Int) - 1)) ≤ (l0.length : Int) then ((pad_Zero.f k ((l0.take ((wrap64 ((l0.length : Int) - 1)) : Int).toNat).drop ((ji4) : Int).toNat)).bind fun t678 => (some t678)) else (none)) else (none)) else (none)) = some r := by first | (rw [hji4] at H; exact H) | (simp only [hji4] at H ⊢; exact H)
  (try rw [hji4] at A2)
  have hji4w : (IntKind.i64.wrap ((l0.length : Int) - t675)) = ji4 := (i64_w _).trans hji4
  by_cases c5 : 0 ≤ (ji4)
  ·rw [if_pos c5] at H
   have c5b0 := eq_true c5
   have c5b1 : decide (0 ≤ (ji4)) = true := decide_eq_true c5
   clear c5
   by_cases c6 : (ji4) ≤ (wrap64 ((l0.length : Int) - 1))
   ·rw [if_pos c6] at H
    have c6b0 := eq_true c6
    have c6b1 : decide ((ji4) ≤ (wrap64 ((l0.length : Int) - 1))) = true := decide_eq_true c6
    clear c6
    by_cases c7 : (wrap64 ((l0.length : Int) - 1)) ≤ (l0.length : Int)
    ·rw [if_pos c7] at H
     have c7b0 := eq_true c7
     have c7b1 : decide ((wrap64 ((l0.length : Int) - 1)) ≤ (l0.length : Int)) = true := decide_eq_true c7
     clear c7
     replace H := Option.bind_eq_some_iff.mp H
     obtain ⟨t678, A80, H⟩ := H
     replace H : (some t678) = some r := H
     have A8 := Aside0.mk A80
     clear A80
     obtain rfl := Option.some.inj H
     go_enter Try.func46, Try.ntmps46
     go_wp2_with (first | ((with_reducible refine gate_callee (f := 49) rfl ?_); refine goesL_ (some 7) rfl rfl Try.func49 (by kernel_rfl) rfl #[.slice A0 l0.length c0] rfl (by (try simp only [List.map_toArray, List.map_cons, List.map_nil]); first | done | rfl | (simp only [List.length_drop, List.length_take]; rfl)) ?_; (with_reducible refine (pad_Trail.calls _ _ l0 t675 t676 _ ?side1 ?side2 A2.out).mono ?_); (case side1 => exact cE HR0.out); (case side2 => exact HC0.out); rintro e w' ⟨rfl, ⟨nd, rfl⟩⟩; refine ⟨_, rfl, ?_⟩; obtain ⟨i09, hi09, _, hsz9, _⟩ := info_parts info5; obtain ⟨A9, hcut9, hA9, hC9⟩ := print_mid_of (P := Try.prog) (Value.int .u8) 0 22 5 .i64 .i64 Try.underlying22 hi09 hsz9 A0 c0 l0 (ji4) (wrap64 ((l0.length : Int) - 1)) (oT (by first | (with_reducible assumption) | assumption)) (by first | omega | exact of_decide_eq_true (by first | (with_reducible assumption) | assumption)) (oT (by first | (with_reducible assumption) | assumption)) HC0.out; have HR677 := Aside0.mk (Kd.C_of_reads (h1 := fun _ => rfl) (hA9 _ (Kd.reads_of_C HR0.out))); have HC677 := Aside0.mk hC9; clear hA9 hC9 hi09 hsz9) | ((with_reducible refine gate_callee (f := 56) rfl ?_); refine goesL_ (some 21) rfl rfl Try.func56 (by kernel_rfl) rfl #[.slice A9 ((l0.take ((wrap64 ((l0.length : Int) - 1)) : Int).toNat).drop ((ji4) : Int).toNat).length (c0 - (ji4).toNat)] rfl (by (try simp only [List.map_toArray, List.map_cons, List.map_nil]); first | done | (rw [show ((l0.take ((wrap64 ((l0.length : Int) - 1)) : Int).toNat).drop ((ji4) : Int).toNat).length = ((wrap64 ((l0.length : Int) - 1)).toNat - (ji4).toNat) from (by rw [List.length_drop, List.length_take]; have h_ : ((wrap64 ((l0.length : Int) - 1)) : Int) ≤ (l0.length : Int) := of_decide_eq_true (by first | (with_reducible assumption) | assumption); omega)] <;> rfl) | (simp only [hji4]; rfl) | rfl | (simp only [List.length_drop, List.length_take]; rfl)) ?_; (with_reducible refine (pad_Zero.calls k _ _ ((l0.take ((wrap64 ((l0.length : Int) - 1)) : Int).toNat).drop ((ji4) : Int).toNat) t678 _ ?side1 ?side2 A8.out).mono ?_); (case side1 => exact cE HR677.out); (case side2 => exact HC677.out); rintro e w' ⟨rfl, ⟨nd, rfl⟩⟩; refine ⟨_, rfl, ?_⟩))
     go_ret
     exact ⟨by first | rfl | (simp; done) | (simp only [← hji4] <;> (first | rfl | simp)) | (simp [*]; done), by repeat (first | exact Drawn0.refl _ | apply Drawn0.step)⟩
    rw [if_neg c7] at H
    exact absurd H (by simp)
   rw [if_neg c6] at H
   exact absurd H (by simp)
  rw [if_neg c5] at H
  exact absurd H (by simp)
 rw [if_neg c3] at H
 have c3b0 : (t676 == 0) = false := beq_eq_false_iff_ne.mpr c3
 have c3b1 : (t676 != 0) = true := bne_iff_ne.mpr c3
 obtain rfl := Option.some.inj H
 go_enter Try.func46, Try.ntmps46
 go_wp2_with (first | ((with_reducible refine gate_callee (f := 49) rfl ?_); refine goesL_ (some 7) rfl rfl Try.func49 (by kernel_rfl) rfl #[.slice A0 l0.length c0] rfl (by (try simp only [List.map_toArray, List.map_cons, List.map_nil]); first | done | rfl | (simp only [List.length_drop, List.length_take]; rfl)) ?_; (with_reducible refine (pad_Trail.calls _ _ l0 t675 t676 _ ?side1 ?side2 A2.out).mono ?_); (case side1 => exact cE HR0.out); (case side2 => exact HC0.out); rintro e w' ⟨rfl, ⟨nd, rfl⟩⟩; refine ⟨_, rfl, ?_⟩))
 go_ret
 exact ⟨by first | rfl | (simp; done) | (simp [*]; done), by repeat (first | exact Drawn0.refl _ | apply Drawn0.step)⟩
end Go.Proofs.Ytcbdgknfkoodoaa.F
