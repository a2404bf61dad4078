/- The walks of the program's functions and the plain proofs for this claim, merged by a program; each theorem says what it says, no conditions beyond those stated. -/
import Derived.Test.YtcbdgknfkoodoaaKD0
import Derived.Test.YtcbdgknfkoodoaaKD1
import Derived.Test.YtcbdgknfkoodoaaProg
import Derived.Below
import Derived.Deep.Draws
import Derived.Deep.AppendLies
import Derived.Maps.AppendAt
import Derived.OwnWalk
import Derived.Laws.BytesArg
import Derived.Laws.MakeOwn
import Derived.Laws.OwnMore
import Derived.Deep.OwnRows
import Derived.Tactics
import Derived.Lib.ConvBytes
import Derived.Laws.Slices
import Derived.WalkKit
import Derived.KernelRfl
import Derived.RowKit3
import Derived.Deep.LoopGhost
import Derived.Deep.QuietTactic
import Derived.BigQuiet
import Derived.WideLaws
import Derived.Deep.DeepCutAuto
import Derived.Deep.CutBlock
import Derived.Deep.RegionHeld3
import Derived.Laws.Rows
import Derived.Lib.AppendStr
import Derived.ArgAppend
import Derived.Laws.IdiomCopy
import Derived.OrdersHeld
import Derived.Laws.BitsLemmas
import Derived.RowKit
import Derived.Lib.Hide
namespace Go.Proofs.Ytcbdgknfkoodoaa.F
open Go.RowKit Go.Proofs.YtcbdgknfkoodoaaW.PrintWords Go.Proofs.YtcbdgknfkoodoaaW.PrintLast Go.Proofs.YtcbdgknfkoodoaaW.PrintMore
attribute [local go_sem] max2_int min2_int max_two min_two max_three min_three max_four min_four   
set_option linter.unusedVariables false
set_option linter.unusedSimpArgs false
def errW : Option Int → Value
 | none => .nilIface
 | some c => .iface 0 (.int .i64 c)
theorem errW_none : errW none = .nilIface := rfl
theorem errW_some (c : Int) : errW (some c) = .iface 0 (.int .i64 c) := rfl
theorem info5 : (Try.prog.info? 5).map (fun i => (i.zero, i.size, i.bytes)) = some (some (.int .u8 0), 1, 1) := by kernel_rfl
theorem info40 : (Try.prog.info? 40).map (fun i => (i.zero, i.size, i.bytes)) = some (some (.int .u32 0), 1, 4) := by kernel_rfl
def rd_L2 (xs : List (List Int)) (i : Int) : (List Int) := xs.getD i.toNat ([] : List Int)
theorem at_L2 {w : World} {A : Option Addr} {n : Nat} {xs : List (List Int)} (h : Kd.C (Kd.slice 5 (Kd.int .u8)) w A n xs) (i : Int) (h0 : 0 ≤ i) (h1 : i < n) : ∃ ad A0 c0, A = some ad ∧ w.cell? (ad.add i.toNat) = some (.slice A0 (rd_L2 xs i).length c0) ∧ (rd_L2 xs i).length ≤ c0 ∧ (Kd.int .u8).C w A0 (rd_L2 xs i).length (rd_L2 xs i) := by
 obtain ⟨ad, c, e, _, hK, hc0⟩ := Kd.C_get h ([] : List Int) i h0 h1
 have hc : ∀ j u, c[j]? = some u → w.cell? (ad.add (i.toNat * 1 + j)) = some u := hc0
 obtain ⟨A0, c0, rfl, l0, g0⟩ := hK
 exact ⟨ad, A0, c0, e, by have hq := hc 0 _ rfl; rwa [Nat.mul_one, Nat.add_zero] at hq, l0, g0⟩
structure S32 where
 f0 : Int
 f1 : Int
 f2 : Int
def octet_span.f (a0 : Int) (a1 : Int) (a2 : Int) : Option (Int) := if a1 > a0 then (some 2) else (if a2 > (wrap64 (a0 - a1)) then (some 2) else (some 0))
set_option maxHeartbeats 8000000 in
set_option maxRecDepth 100000 in
theorem octet_span.calls (a0 : Int) (a1 : Int) (a2 : Int) (r : Int) (w : World) (h : octet_span.f a0 a1 a2 = some r) :
  Calls Try.prog 59 #[.int .i64 a0, .int .i64 a1, .int .i64 a2] w fun e w' => e = .returned (.int .i64 r) ∧ Drawn0 w w' := by
 have H : (if a1 > a0 then (some 2) else (if a2 > (wrap64 (a0 - a1)) then (some 2) else (some 0))) = some r := h
 clear h
 by_cases c4 : a1 > a0
 ·rw [if_pos c4] at H
  have c4b0 : decide (a0 < a1) = true := decide_eq_true c4
  clear c4
  obtain rfl := Option.some.inj H
  go_enter Try.func59, Try.ntmps59
  go_wp2
  go_ret
  exact ⟨by first | rfl | (simp; done) | (simp [*]; done), by repeat (first | exact Drawn0.refl _ | apply Drawn0.step)⟩
 rw [if_neg c4] at H
 have c4b0 : decide (a0 < a1) = false := decide_eq_false c4
 clear c4
 by_cases c5 : a2 > (wrap64 (a0 - a1))
 ·rw [if_pos c5] at H
  have c5b0 : decide ((wrap64 (a0 - a1)) < a2) = true := decide_eq_true c5
  clear c5
  obtain rfl := Option.some.inj H
  go_enter Try.func59, Try.ntmps59
  go_wp2
  go_ret
  exact ⟨by first | rfl | (simp; done) | (simp [*]; done), by repeat (first | exact Drawn0.refl _ | apply Drawn0.step)⟩
 rw [if_neg c5] at H
 have c5b0 : decide ((wrap64 (a0 - a1)) < a2) = false := decide_eq_false c5
 clear c5
 obtain rfl := Option.some.inj H
 go_enter Try.func59, Try.ntmps59
 go_wp2
 go_ret
 exact ⟨by first | rfl | (simp; done) | (simp [*]; done), by repeat (first | exact Drawn0.refl _ | apply Drawn0.step)⟩
mutual
def octet_Get.j0 : Nat → List Int → Int → Int → Bool → Option (Int × Int)
 | 0, _, _, _, _ => none
 | k + 1, x0, x1, x2, x21 => if x21 = true then (some (0, 1)) else ((octet_span.f (x0.length : Int) x1 x2).bind fun t101 => (if t101 = 0 then (if 0 ≤ x1 then (if x1 ≤ (wrap64 (x1 + x2)) then (if (wrap64 (x1 + x2)) ≤ (x0.length : Int) then ((some ((x0.take ((wrap64 (x1 + x2)) : Int).toNat).drop (x1 : Int).toNat : List Int)).bind fun y102 => (octet_Get.l0 k 0 y102 (y102.length : Int) 0)) else (none)) else (none)) else (none)) else (some (0, t101))))
def octet_Get.l0 : Nat → Int → List Int → Int → Int → Option (Int × Int)
 | 0, _, _, _, _ => none
 | k + 1, x9, x35, x36, x37 => if x37 < x36 then (if 0 ≤ x37 then (if x37 < (x35.length : Int) then (octet_Get.l0 k (Go.bits .or .u64 (IntKind.u64.wrap (x9 * 256)) (IntKind.u64.wrap (rd x35 x37))) x35 x36 (wrap64 (x37 + 1))) else (none)) else (none)) else (some (x9, 0))
end
def octet_Get.f (k : Nat) (l0 : List Int) (a1 : Int) (a2 : Int) : Option (Int × Int) := if a2 < 1 then (octet_Get.j0 k l0 a1 a2 true) else (if a2 > 8 then (octet_Get.j0 k l0 a1 a2 true) else (octet_Get.j0 k l0 a1 a2 (decide (a1 < 0))))
theorem octet_Get.mono_l : ∀ k, (∀ y0 y1 y2 y3, LeO (octet_Get.j0 k y0 y1 y2 y3) (octet_Get.j0 (k + 1) y0 y1 y2 y3)) ∧ (∀ y0 y1 y2 y3, LeO (octet_Get.l0 k y0 y1 y2 y3) (octet_Get.l0 (k + 1) y0 y1 y2 y3))
 | 0 => ⟨fun _ _ _ _ r h => by simp [octet_Get.j0] at h, fun _ _ _ _ r h => by simp [octet_Get.l0] at h⟩
 | k + 1 => by
  obtain ⟨ih0, ih1⟩ := octet_Get.mono_l k
  refine ⟨?_, ?_⟩
  ·intro y0 y1 y2 y3
   unfold octet_Get.j0
   repeat' first
   | (with_reducible exact ih0 _ _ _ _)
   | (with_reducible exact ih1 _ _ _ _)
   | (with_reducible exact LeO.refl _)
   | (with_reducible exact LeO.none _)
   | (with_reducible refine LeO.ite ?_ ?_)
   | (with_reducible refine LeO.bind ?_ (fun _ => ?_))
   | exact ih0 _ _ _ _
   | exact ih1 _ _ _ _
   | exact LeO.none _
   | refine LeO.ite ?_ ?_
   | refine LeO.bind ?_ (fun _ => ?_)
  intro y0 y1 y2 y3
  unfold octet_Get.l0
  repeat' first
  | (with_reducible exact ih0 _ _ _ _)
  | (with_reducible exact ih1 _ _ _ _)
  | (with_reducible exact LeO.refl _)
  | (with_reducible exact LeO.none _)
  | (with_reducible refine LeO.ite ?_ ?_)
  | (with_reducible refine LeO.bind ?_ (fun _ => ?_))
  | exact ih0 _ _ _ _
  | exact ih1 _ _ _ _
  | exact LeO.none _
  | refine LeO.ite ?_ ?_
  | refine LeO.bind ?_ (fun _ => ?_)
theorem octet_Get.mono : ∀ a0 a1 a2 k, LeO (octet_Get.f k a0 a1 a2) (octet_Get.f (k + 1) a0 a1 a2) := by
 intro a0 a1 a2 k
 obtain ⟨ih0, ih1⟩ := octet_Get.mono_l k
 unfold octet_Get.f
 repeat' first
   | (with_reducible exact ih0 _ _ _ _)
   | (with_reducible exact ih1 _ _ _ _)
   | (with_reducible exact LeO.refl _)
   | (with_reducible exact LeO.none _)
   | (with_reducible refine LeO.ite ?_ ?_)
   | (with_reducible refine LeO.bind ?_ (fun _ => ?_))
   | exact ih0 _ _ _ _
   | exact ih1 _ _ _ _
   | exact LeO.none _
   | refine LeO.ite ?_ ?_
   | refine LeO.bind ?_ (fun _ => ?_)
set_option maxHeartbeats 8000000 in
set_option maxRecDepth 100000 in
theorem octet_Get.calls (k : Nat) (A0 : Option Addr) (c0 : Nat) (l0 : List Int) (a1 : Int) (a2 : Int) (r1 : Int) (r2 : Int) (w : World) (hr0 : Kd.C (Kd.int .u8) w A0 l0.length l0) (hc0 : l0.length ≤ c0) (h : octet_Get.f k l0 a1 a2 = some (r1, r2)) :
  Calls Try.prog 58 #[.slice A0 l0.length c0, .int .i64 a1, .int .i64 a2] w fun e w' => e = .returned (.tuple #[.int .u64 r1, .int .i64 r2]) ∧ Drawn0 w w' := by
 have HR0 := Aside0.mk hr0
 have HC0 := Aside0.mk hc0
 clear hr0 hc0
 have H : (if a2 < 1 then (octet_Get.j0 k l0 a1 a2 true) else (if a2 > 8 then (octet_Get.j0 k l0 a1 a2 true) else (octet_Get.j0 k l0 a1 a2 (decide (a1 < 0))))) = some (r1, r2) := h
 clear h
 have HC4 := Aside0.mk H
 clear H
 go_enter Try.func58, Try.ntmps58
 go_upto_region 1 with (fail)
 go_cut [21] (fun v21 wc => ∃ (kq : Nat) (x21_3 : Bool), v21 = .bool x21_3 ∧ Aside0 (octet_Get.j0 kq l0 a1 a2 x21_3 = some (r1, r2)) ∧ Aside0 (kq ≤ k) ∧ Drawn0 w wc)
 case first =>
  have H := HC4.out
  clear HC4
  by_cases c5 : a2 < 1
  ·rw [if_pos c5] at H
   have c5b0 : decide (a2 < 1) = true := decide_eq_true c5
   clear c5
   (first | rw [c5b0] | (simp only [i64_w, i32_w]; rw [c5b0]) | skip)
   have H' := Aside0.mk H
   clear H
   go_wp2
   go_meet
   case rel => exact ⟨_, (true), (by first | rfl | (simp; done) | (simp [*]; done)), H', ⟨by first | omega | exact Nat.le_refl _⟩, by repeat (first | exact Drawn0.refl _ | apply Drawn0.step)⟩
  rw [if_neg c5] at H
  have c5b0 : decide (a2 < 1) = false := decide_eq_false c5
  clear c5
  (first | rw [c5b0] | (simp only [i64_w, i32_w]; rw [c5b0]) | skip)
  by_cases c6 : a2 > 8
  ·rw [if_pos c6] at H
   have c6b0 : decide (8 < a2) = true := decide_eq_true c6
   clear c6
   have H' := Aside0.mk H
   clear H
   go_wp2
   go_meet
   case rel => exact ⟨_, (true), (by first | rfl | (simp; done) | (simp [*]; done)), H', ⟨by first | omega | exact Nat.le_refl _⟩, by repeat (first | exact Drawn0.refl _ | apply Drawn0.step)⟩
  rw [if_neg c6] at H
  have c6b0 : decide (8 < a2) = false := decide_eq_false c6
  clear c6
  have H' := Aside0.mk H
  clear H
  go_wp2
  go_meet
  case rel => exact ⟨_, (decide (a1 < 0)), (by first | rfl | (simp; done) | (simp [*]; done)), H', ⟨by first | omega | exact Nat.le_refl _⟩, by repeat (first | exact Drawn0.refl _ | apply Drawn0.step)⟩
 case rest =>
  clear HC4
  try clear p2
  try clear c5
  try clear c5b0
  try clear c6
  try clear c6b0
  obtain ⟨kq, x21_3, rfl, HA, HJ3, ⟨mc3, rfl⟩⟩ := hcut
  cases kq with
  | zero => exact absurd HA.out (by simp [octet_Get.j0])
  | succ kj3 =>
   have H := HA.out
   clear HA
   simp only [octet_Get.j0] at H
   by_cases c7 : x21_3 = true
   ·subst c7
    have H1 : (some (0, 1)) = some (r1, r2) := by rw [if_pos rfl] at H; exact H
    clear H
    have H := H1
    clear H1
    simp only [Option.some.injEq, Prod.mk.injEq] at H
    obtain ⟨rfl, rfl⟩ := H
    go_wp2
    go_ret2
    exact ⟨by first | rfl | (simp; done) | (simp [*]; done), by repeat (first | exact Drawn0.refl _ | apply Drawn0.step)⟩
   replace c7 := Bool.eq_false_iff.mpr c7
   subst c7
   have H1 : ((octet_span.f (l0.length : Int) a1 a2).bind fun t101 => (if t101 = 0 then (if 0 ≤ a1 then (if a1 ≤ (wrap64 (a1 + a2)) then (if (wrap64 (a1 + a2)) ≤ (l0.length : Int) then ((some ((l0.take ((wrap64 (a1 + a2)) : Int).toNat).drop (a1 : Int).toNat : List Int)).bind fun y102 => (octet_Get.l0 kj3 0 y102 (y102.length : Int) 0)) else (none)) else (none)) else (none)) else (some (0, t101)))) = some (r1, r2) := by rw [if_neg (show ¬ (false = true) by decide)] at H; exact H
   clear H
   have H := H1
   clear H1
   replace H := Option.bind_eq_some_iff.mp H
   obtain ⟨t101, A80, H⟩ := H
   replace H : (if t101 = 0 then (if 0 ≤ a1 then (if a1 ≤ (wrap64 (a1 + a2)) then (if (wrap64 (a1 + a2)) ≤ (l0.length : Int) then ((some ((l0.take ((wrap64 (a1 + a2)) : Int).toNat).drop (a1 : Int).toNat : List Int)).bind fun y102 => (octet_Get.l0 kj3 0 y102 (y102.length : Int) 0)) else (none)) else (none)) else (none)) else (some (0, t101))) = some (r1, r2) := H
   have A8 := Aside0.mk A80
   clear A80
   by_cases c9 : t101 = 0
   ·rw [if_pos c9] at H
    have c9b0 : (t101 == 0) = true := beq_iff_eq.mpr c9
    have c9b1 : (t101 != 0) = false := bne_eq_false_iff_eq.mpr c9
    clear c9
    by_cases c10 : 0 ≤ a1
    ·rw [if_pos c10] at H
     have c10b0 := eq_true c10
     have c10b1 : decide (0 ≤ a1) = true := decide_eq_true c10
     clear c10
     by_cases c11 : a1 ≤ (wrap64 (a1 + a2))
     ·rw [if_pos c11] at H
      have c11b0 := eq_true c11
      have c11b1 : decide (a1 ≤ (wrap64 (a1 + a2))) = true := decide_eq_true c11
      by_cases c12 : (wrap64 (a1 + a2)) ≤ (l0.length : Int)
      ·rw [if_pos c12] at H
       have c12b0 := eq_true c12
       have c12b1 : decide ((wrap64 (a1 + a2)) ≤ (l0.length : Int)) = true := decide_eq_true c12
       obtain ⟨y102, hy102⟩ : ∃ y_ : List Int, y_ = ((l0.take ((wrap64 (a1 + a2)) : Int).toNat).drop (a1 : Int).toNat) := ⟨_, rfl⟩
       replace H : (octet_Get.l0 kj3 0 y102 (y102.length : Int) 0) = some (r1, r2) := by first | (rw [hy102]; with_reducible exact H) | (have H2_ := (Option.bind_some _ _).symm.trans H; rw [hy102]; with_reducible exact H2_) | (have H2_ := (Option.bind_some _ _).symm.trans H; with_reducible exact H2_) | with_reducible exact H | (rw [hy102]; exact H) | exact H
       have Ny102 := Aside0.mk hy102
       clear hy102
       have H' := Aside0.mk H
       clear H
       go_wp2_with (first | ((with_reducible refine gate_callee (f := 59) rfl ?_); refine goesL_ (some 26) rfl rfl Try.func59 (by kernel_rfl) rfl #[.int .i64 (l0.length : Int), .int .i64 a1, .int .i64 a2] rfl (by (try simp only [List.map_toArray, List.map_cons, List.map_nil]); first | done | rfl | (simp only [List.length_drop, List.length_take]; rfl)) ?_; (with_reducible refine (octet_span.calls (l0.length : Int) a1 a2 t101 _ A8.out).mono ?_); rintro e w' ⟨rfl, ⟨nd, rfl⟩⟩; refine ⟨_, rfl, ?_⟩; have q13 : ((wrap64 (a1 + a2)) : Int) ≤ ((l0.length : Int) : Int) := of_decide_eq_true (by first | (with_reducible assumption) | assumption); obtain ⟨i013, hi013, _, hsz13, _⟩ := info_parts info5; have hroom13 : l0.length ≤ c0 := HC0.out; have hC13 : Kd.C (Kd.int .u8) _ A0 l0.length l0 := HR0.out; have ql13 : (a1 : Int) ≤ ((wrap64 (a1 + a2)) : Int) := of_decide_eq_true (by first | (with_reducible assumption) | assumption); have q013 : (0 : Int) ≤ (a1 : Int) := of_decide_eq_true (by first | (with_reducible assumption) | assumption); have hcut13 := cut_mid (P := Try.prog) 22 5 .i64 .i64 Try.underlying22 hi013 1 hsz13 A0 l0.length c0 a1 (wrap64 (a1 + a2)) q013 ql13 q13 hroom13; have hr13 := Kd.C_mid (lo := (a1 : Int).toNat) (hi := ((wrap64 (a1 + a2)) : Int).toNat) (c := c0) hC13 (by omega) (by omega) hroom13; obtain ⟨A13, hA13⟩ : ∃ A1, A1 = (if c0 = (a1 : Int).toNat then A0 else (A0 : Option Addr).map (·.add ((a1 : Int).toNat * 1))) := ⟨_, rfl⟩; obtain ⟨c13, hc13⟩ : ∃ c1, c1 = c0 - (a1 : Int).toNat := ⟨_, rfl⟩; have hy13 : y102.length = ((wrap64 (a1 + a2)) : Int).toNat - (a1 : Int).toNat := (by rw [Ny102.out, List.length_drop, List.length_take] <;> omega); rw [show ((l0).take ((wrap64 (a1 + a2)) : Int).toNat).drop (a1 : Int).toNat = y102 from Ny102.out.symm] at hr13; replace hr13 : Kd.C (Kd.int .u8) _ A13 y102.length y102 := (by rw [hA13]; exact hr13); rw [← hy13, ← hA13, ← hc13] at hcut13; have HR105 := Aside0.mk hr13; have HC105 := Aside0.mk (show y102.length ≤ c13 from by rw [hy13, hc13]; exact Nat.sub_le_sub_right (Nat.le_trans (by omega) hroom13) _); clear hr13 hC13 hroom13 hi013 hsz13 hc13; have KY13 := Aside0.mk hy13; have KA13 := Aside0.mk hA13; clear hy13 hA13; replace q13 := eq_true q13))
       go_loopg [9, 37] kj3 (fun kq v9 v37 w' => ∃ (x9_2 : Int) (x37_2 : Int), v9 = .int .u64 x9_2 ∧ v37 = .int .i64 x37_2 ∧ Aside0 (octet_Get.l0 kq x9_2 y102 (y102.length : Int) x37_2 = some (r1, r2)) ∧ Aside0 (kq ≤ kj3) ∧ Drawn0 w w')
       case atStart => exact ⟨(0), (0), (by first | rfl | (simp; done) | (simp [*]; done)), (by first | rfl | (simp; done) | (simp [*]; done)), H', ⟨Nat.le_refl _⟩, by repeat (first | exact Drawn0.refl _ | apply Drawn0.step)⟩
       case round =>
        clear H'
        try clear c1
        try clear q1
        try clear p2
        try clear c3
        try clear c5
        try clear c5b0
        try clear c6
        try clear c6b0
        try clear p6
        try clear c7
        try clear c9
        try clear c9b0
        try clear c9b1
        try clear c10
        try clear c10b0
        try clear c10b1
        try clear c11
        try clear c11b0
        try clear c11b1
        try clear c12
        try clear c12b0
        try clear c12b1
        try clear c13
        try clear q13
        try clear p2
        try clear q013
        try clear q13
        obtain ⟨x9_2, x37_2, rfl, rfl, HA, HK2, ⟨m2, rfl⟩⟩ := hrel
        cases gk with
        | zero => exact absurd HA.out (by simp [octet_Get.l0])
        | succ k2 =>
         have H := HA.out
         clear HA
         simp only [octet_Get.l0] at H
         by_cases c14 : x37_2 < (y102.length : Int)
         ·rw [if_pos c14] at H
          have c14b0 : decide (x37_2 < (y102.length : Int)) = true := decide_eq_true c14
          clear c14
          by_cases c15 : 0 ≤ x37_2
          ·rw [if_pos c15] at H
           have c15b0 : decide (0 ≤ x37_2) = true := decide_eq_true c15
           clear c15
           by_cases c16 : x37_2 < (y102.length : Int)
           ·rw [if_pos c16] at H
            have c16b0 : decide (x37_2 < (y102.length : Int)) = true := decide_eq_true c16
            clear c16
            have H' := Aside0.mk H
            clear H
            have p106 : 0 ≤ (x37_2 : Int) := of_decide_eq_true (by first | (with_reducible assumption) | assumption)
            have q106 : x37_2 < (y102.length : Int) := of_decide_eq_true (by first | (with_reducible assumption) | assumption)
            obtain ⟨ad106, e106, hx106_0⟩ := Kd.at_int HR105.out x37_2 p106 q106
            cases e106
            replace p106 := eq_true p106
            replace q106 := eq_true q106
            go_wp2
            go_roundg k2
            case measure => have := HJ3.out; have := HK2.out; omega
            case rel => exact ⟨(Go.bits .or .u64 (IntKind.u64.wrap (x9_2 * 256)) (IntKind.u64.wrap (rd y102 x37_2))), (wrap64 (x37_2 + 1)), (by first | rfl | (simp; done) | (simp [*]; done)), (by first | rfl | (simp; done) | (simp [*]; done)), H', ⟨by have := HJ3.out; have := HK2.out; omega⟩, by repeat (first | exact Drawn0.refl _ | apply Drawn0.step)⟩
           rw [if_neg c16] at H
           exact absurd H (by simp)
          rw [if_neg c15] at H
          exact absurd H (by simp)
         rw [if_neg c14] at H
         have c14b0 : decide (x37_2 < (y102.length : Int)) = false := decide_eq_false c14
         clear c14
         simp only [Option.some.injEq, Prod.mk.injEq] at H
         obtain ⟨rfl, rfl⟩ := H
         go_wp2
         go_ret2
         exact ⟨by first | rfl | (simp; done) | (simp [*]; done), by repeat (first | exact Drawn0.refl _ | apply Drawn0.step)⟩
      rw [if_neg c12] at H
      exact absurd H (by simp)
     rw [if_neg c11] at H
     exact absurd H (by simp)
    rw [if_neg c10] at H
    exact absurd H (by simp)
   rw [if_neg c9] at H
   have c9b0 : (t101 == 0) = false := beq_eq_false_iff_ne.mpr c9
   have c9b1 : (t101 != 0) = true := bne_iff_ne.mpr c9
   simp only [Option.some.injEq, Prod.mk.injEq] at H
   obtain ⟨rfl, rfl⟩ := H
   go_wp2_with (first | ((with_reducible refine gate_callee (f := 59) rfl ?_); refine goesL_ (some 26) rfl rfl Try.func59 (by kernel_rfl) rfl #[.int .i64 (l0.length : Int), .int .i64 a1, .int .i64 a2] rfl (by (try simp only [List.map_toArray, List.map_cons, List.map_nil]); first | done | rfl | (simp only [List.length_drop, List.length_take]; rfl)) ?_; (with_reducible refine (octet_span.calls (l0.length : Int) a1 a2 t101 _ A8.out).mono ?_); rintro e w' ⟨rfl, ⟨nd, rfl⟩⟩; refine ⟨_, rfl, ?_⟩))
   go_ret2
   exact ⟨by first | rfl | (simp; done) | (simp [*]; done), by repeat (first | exact Drawn0.refl _ | apply Drawn0.step)⟩
def head_wordAt.f (k : Nat) (l0 : List Int) (a1 : Int) : Option (Int) := (octet_Get.f k l0 a1 4).bind fun bt107 => (some ((bt107.1) % 4294967296))
theorem head_wordAt.mono : ∀ a0 a1 k, LeO (head_wordAt.f k a0 a1) (head_wordAt.f (k + 1) a0 a1) := by
 intro a0 a1 k
 unfold head_wordAt.f
 repeat' first
   | (with_reducible exact octet_Get.mono _ _ _ _)
   | (with_reducible exact LeO.refl _)
   | (with_reducible exact LeO.none _)
   | (with_reducible refine LeO.ite ?_ ?_)
   | (with_reducible refine LeO.bind ?_ (fun _ => ?_))
   | exact octet_Get.mono _ _ _ _
   | exact LeO.none _
   | refine LeO.ite ?_ ?_
   | refine LeO.bind ?_ (fun _ => ?_)
set_option maxHeartbeats 8000000 in
set_option maxRecDepth 100000 in
theorem head_wordAt.calls (k : Nat) (A0 : Option Addr) (c0 : Nat) (l0 : List Int) (a1 : Int) (r : Int) (w : World) (hr0 : Kd.C (Kd.int .u8) w A0 l0.length l0) (hc0 : l0.length ≤ c0) (h : head_wordAt.f k l0 a1 = some r) :
  Calls Try.prog 57 #[.slice A0 l0.length c0, .int .i64 a1] w fun e w' => e = .returned (.int .u32 r) ∧ Drawn0 w w' := by
 have HR0 := Aside0.mk hr0
 have HC0 := Aside0.mk hc0
 clear hr0 hc0
 have H : ((octet_Get.f k l0 a1 4).bind fun bt107 => (some ((bt107.1) % 4294967296))) = some r := h
 clear h
 replace H := Option.bind_eq_some_iff.mp H
 obtain ⟨⟨t107, t108⟩, A30, H⟩ := H
 replace H : (some ((t107) % 4294967296)) = some r := H
 have A3 := Aside0.mk A30
 clear A30
 obtain rfl := Option.some.inj H
 go_enter Try.func57, Try.ntmps57
 go_wp2_with (first | ((with_reducible refine gate_callee (f := 58) rfl ?_); refine goesL_ (some 10) rfl rfl Try.func58 (by kernel_rfl) rfl #[.slice A0 l0.length c0, .int .i64 a1, .int .i64 4] rfl (by (try simp only [List.map_toArray, List.map_cons, List.map_nil]); first | done | rfl | (simp only [List.length_drop, List.length_take]; rfl)) ?_; (with_reducible refine (octet_Get.calls k _ _ l0 a1 4 t107 t108 _ ?side1 ?side2 A3.out).mono ?_); (case side1 => exact cE HR0.out); (case side2 => exact HC0.out); rintro e w' ⟨rfl, ⟨nd, rfl⟩⟩; refine ⟨_, rfl, ?_⟩))
 go_ret
 exact ⟨by first | rfl | (simp; done) | (simp [*]; done), by repeat (first | exact Drawn0.refl _ | apply Drawn0.step)⟩
def head_Read.l0 : Nat → List Int → Int → Int → Int → Bool → Bool → Bool → Int → Int → Int → Int → List Int → Option (Bool × Bool × Bool × Int × Int × Int × Int × List Int × Int × Int)
 | 0, _, _, _, _, _, _, _, _, _, _, _, _ => none
 | k + 1, x0, x5, x6, x8, x121000, x121001, x121002, x121003, x121004, x121005, x121006, x121007 => if x8 < x5 then ((head_wordAt.f k x0 (wrap64 (12 + (wrap64 (4 * x8))))).bind fun t121 => (if x121007.length < 35184372088832 then (head_Read.l0 k x0 x5 x6 (wrap64 (x8 + 1)) x121000 x121001 x121002 x121003 x121004 x121005 x121006 (x121007 ++ [t121])) else (none))) else (some (x121000, x121001, x121002, x121003, x121004, x121005, x121006, x121007, x6, 0))
def head_Read.f (k : Nat) (l0 : List Int) : Option (Bool × Bool × Bool × Int × Int × Int × Int × List Int × Int × Int) := if (l0.length : Int) < 12 then (some (false, false, false, 0, 0, 0, 0, ([] : List Int), 0, 2)) else (if 0 < (l0.length : Int) then (if ((rd l0 0) / 64) = 2 then (if (l0.length : Int) < (wrap64 (12 + (wrap64 (4 * (wrap64 (Go.bits .and .u8 (rd l0 0) 15)))))) then (some (false, false, false, 0, 0, 0, 0, ([] : List Int), 0, 2)) else (if 1 < (l0.length : Int) then (if 2 < (l0.length : Int) then (if 3 < (l0.length : Int) then ((head_wordAt.f k l0 4).bind fun t118 => ((head_wordAt.f k l0 8).bind fun t119 => (head_Read.l0 k l0 (wrap64 (Go.bits .and .u8 (rd l0 0) 15)) (wrap64 (12 + (wrap64 (4 * (wrap64 (Go.bits .and .u8 (rd l0 0) 15)))))) 0 ((Go.bits .and .u8 (rd l0 0) 32) != 0) ((Go.bits .and .u8 (rd l0 0) 16) != 0) ((Go.bits .and .u8 (rd l0 1) 128) != 0) (wrap64 (Go.bits .and .u8 (rd l0 1) 127)) (Go.bits .or .u16 (IntKind.u16.wrap ((IntKind.u16.wrap (rd l0 2)) * 256)) (IntKind.u16.wrap (rd l0 3))) t118 t119 ([] : List Int)))) else (none)) else (none)) else (none))) else (some (false, false, false, 0, 0, 0, 0, ([] : List Int), 0, 3))) else (none))
theorem head_Read.mono_l : ∀ k, (∀ y0 y1 y2 y3 y4 y5 y6 y7 y8 y9 y10 y11, LeO (head_Read.l0 k y0 y1 y2 y3 y4 y5 y6 y7 y8 y9 y10 y11) (head_Read.l0 (k + 1) y0 y1 y2 y3 y4 y5 y6 y7 y8 y9 y10 y11))
 | 0 => fun _ _ _ _ _ _ _ _ _ _ _ _ r h => by simp [head_Read.l0] at h
 | k + 1 => by
  have ih0 := head_Read.mono_l k
  intro y0 y1 y2 y3 y4 y5 y6 y7 y8 y9 y10 y11
  unfold head_Read.l0
  repeat' first
  | (with_reducible exact ih0 _ _ _ _ _ _ _ _ _ _ _ _)
  | (with_reducible exact head_wordAt.mono _ _ _)
  | (with_reducible exact LeO.refl _)
  | (with_reducible exact LeO.none _)
  | (with_reducible refine LeO.ite ?_ ?_)
  | (with_reducible refine LeO.bind ?_ (fun _ => ?_))
  | exact ih0 _ _ _ _ _ _ _ _ _ _ _ _
  | exact head_wordAt.mono _ _ _
  | exact LeO.none _
  | refine LeO.ite ?_ ?_
  | refine LeO.bind ?_ (fun _ => ?_)
theorem head_Read.mono : ∀ a0 k, LeO (head_Read.f k a0) (head_Read.f (k + 1) a0) := by
 intro a0 k
 have ih0 := head_Read.mono_l k
 unfold head_Read.f
 repeat' first
   | (with_reducible exact ih0 _ _ _ _ _ _ _ _ _ _ _ _)
   | (with_reducible exact head_wordAt.mono _ _ _)
   | (with_reducible exact LeO.refl _)
   | (with_reducible exact LeO.none _)
   | (with_reducible refine LeO.ite ?_ ?_)
   | (with_reducible refine LeO.bind ?_ (fun _ => ?_))
   | exact ih0 _ _ _ _ _ _ _ _ _ _ _ _
   | exact head_wordAt.mono _ _ _
   | exact LeO.none _
   | refine LeO.ite ?_ ?_
   | refine LeO.bind ?_ (fun _ => ?_)
def head_Read.T9 : Bool × List (List Nat × List Nat) := (true, [([], []), ([0], [0]), ([1], [1]), ([2], [2]), ([3], [3]), ([], []), ([5], [5]), ([6], [6]), ([7], [7]), ([8], [8]), ([], []), ([10], [10]), ([11], [11]), ([12], [12]), ([13], [13]), ([], []), ([15], [15]), ([16], [16]), ([17], [17]), ([18], [18]), ([], []), ([20], [20]), ([21], [21]), ([22], [22]), ([23], [23]), ([], []), ([25], [25]), ([26], [26]), ([27], [27]), ([24, 28], [24, 28]), ([], []), ([30], [30]), ([], []), ([32, 31], [32]), ([4, 9, 14, 19, 29, 31, 33], [4, 9, 14, 19, 29, 31, 33]), ([], []), ([35, 34, 33, 0, 1, 2, 3, 4, 5, 6, 7, 8, 9, 10, 11, 12, 13, 14, 15, 16, 17, 18, 19, 20, 21, 22, 23, 24, 25, 26, 27, 28, 29, 30, 31, 32, 33, 34, 35], [34, 35])])
def head_Read.B9 : List Nat := [0, 1, 3, 7, 15, 0, 32, 96, 224, 480, 0, 1024, 3072, 7168, 15360, 0, 32768, 98304, 229376, 491520, 0, 1048576, 3145728, 7340032, 15728640, 0, 33554432, 100663296, 234881024, 535822336, 0, 1073741824, 0, 7516192768, 17179869183, 0, 68719476735]
theorem head_Read.tab9 : rtab .any (opsOf Try.f47 9) = head_Read.T9 := by kernel_rfl
theorem head_Read.bits9 : waitsOk head_Read.T9.2 head_Read.B9 = true := by kernel_rfl
def head_Read.T13 : Bool × List (List Nat × List Nat) := (true, [([], []), ([0], [0]), ([], []), ([], []), ([3], [3]), ([4], [4]), ([2, 5], [2, 5]), ([6], [6]), ([1, 7, 6], [1, 7]), ([0, 1, 2, 3, 4, 5, 6, 7, 8], []), ([9, 8, 8, 0, 1, 2, 3, 4, 5, 6, 7, 8], [8, 9])])
def head_Read.B13 : List Nat := [0, 1, 0, 0, 8, 24, 60, 124, 255, 511, 1023]
theorem head_Read.tab13 : rtab .any (opsOf Try.f47 13) = head_Read.T13 := by kernel_rfl
theorem head_Read.bits13 : waitsOk head_Read.T13.2 head_Read.B13 = true := by kernel_rfl
set_option maxHeartbeats 8000000 in
set_option maxRecDepth 100000 in
theorem head_Read.calls (k : Nat) (A0 : Option Addr) (c0 : Nat) (l0 : List Int) (r1 : Bool) (r2 : Bool) (r3 : Bool) (r4 : Int) (r5 : Int) (r6 : Int) (r7 : Int) (r8 : List Int) (r9 : Int) (r10 : Int) (w : World) (hr0 : Kd.C (Kd.int .u8) w A0 l0.length l0) (hc0 : l0.length ≤ c0) (h : head_Read.f k l0 = some (r1, r2, r3, r4, r5, r6, r7, r8, r9, r10)) :
  Calls Try.prog 47 #[.slice A0 l0.length c0] w fun e w' => ∃ v7_ : Value, e = .returned (.tuple #[.agg #[.bool r1, .bool r2, .bool r3, .int .i64 r4, .int .u16 r5, .int .u32 r6, .int .u32 r7, v7_], .int .i64 r9, .int .i64 r10]) ∧ Kd.R (Kd.int .u32) 40 w' w.heap.size (fun _ => True) v7_ r8 ∧ Below w.heap.size w w' := by
 have hu43 := Try.underlying43
 have HR0 := Aside0.mk hr0
 have HC0 := Aside0.mk hc0
 clear hr0 hc0
 have HB := Aside0.mk (Below.refl w.heap.size w)
 have H : (if (l0.length : Int) < 12 then (some (false, false, false, 0, 0, 0, 0, ([] : List Int), 0, 2)) else (if 0 < (l0.length : Int) then (if ((rd l0 0) / 64) = 2 then (if (l0.length : Int) < (wrap64 (12 + (wrap64 (4 * (wrap64 (Go.bits .and .u8 (rd l0 0) 15)))))) then (some (false, false, false, 0, 0, 0, 0, ([] : List Int), 0, 2)) else (if 1 < (l0.length : Int) then (if 2 < (l0.length : Int) then (if 3 < (l0.length : Int) then ((head_wordAt.f k l0 4).bind fun t118 => ((head_wordAt.f k l0 8).bind fun t119 => (head_Read.l0 k l0 (wrap64 (Go.bits .and .u8 (rd l0 0) 15)) (wrap64 (12 + (wrap64 (4 * (wrap64 (Go.bits .and .u8 (rd l0 0) 15)))))) 0 ((Go.bits .and .u8 (rd l0 0) 32) != 0) ((Go.bits .and .u8 (rd l0 0) 16) != 0) ((Go.bits .and .u8 (rd l0 1) 128) != 0) (wrap64 (Go.bits .and .u8 (rd l0 1) 127)) (Go.bits .or .u16 (IntKind.u16.wrap ((IntKind.u16.wrap (rd l0 2)) * 256)) (IntKind.u16.wrap (rd l0 3))) t118 t119 ([] : List Int)))) else (none)) else (none)) else (none))) else (some (false, false, false, 0, 0, 0, 0, ([] : List Int), 0, 3))) else (none))) = some (r1, r2, r3, r4, r5, r6, r7, r8, r9, r10) := h
 clear h
 by_cases c2 : (l0.length : Int) < 12
 ·rw [if_pos c2] at H
  have c2b0 : decide ((l0.length : Int) < 12) = true := decide_eq_true c2
  have c2b1 : decide (l0.length < 12) = true := decide_eq_true (by omega)
  clear c2
  simp only [Option.some.injEq, Prod.mk.injEq] at H
  obtain ⟨rfl, rfl, rfl, rfl, rfl, rfl, rfl, rfl, rfl, rfl⟩ := H
  go_enter Try.func47, Try.ntmps47
  go_wp2_with (first | ((with_reducible refine gate_dst (N := 2) rfl ?_); refine box_event ?hg (N := 2) ?hd (cs := #[.bool false, .bool false, .bool false, .int .i64 0, .int .u16 0, .int .u32 0, .int .u32 0, .slice none 0 0]) (t := 43) ?hr ?_; (case hd => rfl); (case hg => rfl); (case hr => first | (go_simp; done) | (go_simp; rfl)); intro gb109 hg w3 hbox hb; have n0_ := bstE HB hb; have BK109 := Aside0.mk (hbox); have GW109 := geE hg HB; have GE109 := geE hg HB; clear HB; have HB := n0_; clear n0_; clear hb hbox hg; obtain ⟨Z4_0, Z4_1, Z4_2, Z4_3, Z4_4, Z4_5, Z4_6, Z4_7, Y4_0, Y4_1, Y4_2, Y4_3, Y4_4, Y4_5, Y4_6, Y4_7⟩ := bc8 BK109.out) | ((with_reducible refine gate_store (t := 43) (p := 2) rfl ?_); refine store_event (t := 43) (p := 2) (v := ?vo_w5) (w1 := ((((((((w3.setCell ⟨gb109, 0, none⟩ (.bool false)).setCell ⟨gb109, 1, none⟩ (.bool false)).setCell ⟨gb109, 2, none⟩ (.bool false)).setCell ⟨gb109, 3, none⟩ (.int .i64 0)).setCell ⟨gb109, 4, none⟩ (.int .u16 0)).setCell ⟨gb109, 5, none⟩ (.int .u32 0)).setCell ⟨gb109, 6, none⟩ (.int .u32 0)).setCell ⟨gb109, 7, none⟩ (.slice none 0 0))) ?hg ?ho ?hn ?hr ?_; (case ho => rfl); (case hg => rfl); (case hn => rfl); (case hr => first | (go_simp; done) | (go_simp; rfl)); intro w5 hw; replace BK109 : Aside0 (w5.heap[gb109]? = some (.cells #[.bool false, .bool false, .bool false, .int .i64 0, .int .u16 0, .int .u32 0, .int .u32 0, .slice none 0 0] 43 (0, 0))) := ⟨by rw [hw]; apply puts8; exact BK109.out⟩; replace HB := bsE hw HB GE109; clear hw))
  refine bodyPost_ret (results_ctt rfl _ _ gb109 43 #[.bool false, .bool false, .bool false, .int .i64 0, .int .u16 0, .int .u32 0, .int .u32 0, .slice none 0 0] (0, 0) _ rfl (pk BK109) Try.underlying43 rfl (by kernel_rfl)) rfl ?_
  exact ⟨_, by first | rfl | (simp [errW_none, errW_some] <;> rfl) | (simp [*, errW_none, errW_some] <;> rfl), by first | exact Kd.R_nil _ _ _ _ _ | exact Kd.N_nil _ _ _ _ _ | exact Kd.V_nil _ _ _ _ _ | exact Kd.Q_nil _ _ _ _ _ | exact Kd.S_nil _ _ _ _ _, by repeat (first | (with_reducible first | exact HB.out | apply below_alloc | apply pw_below_drewN | apply below_drew1 | refine below_set ?_ GE109.out) | exact HB.out)⟩
 rw [if_neg c2] at H
 have c2b0 : decide ((l0.length : Int) < 12) = false := decide_eq_false c2
 have c2b1 : decide (l0.length < 12) = false := decide_eq_false (by omega)
 clear c2
 by_cases c6 : 0 < (l0.length : Int)
 ·rw [if_pos c6] at H
  have c6b0 : decide (0 < (l0.length : Int)) = true := decide_eq_true c6
  have c6b1 : decide (0 < l0.length) = true := decide_eq_true (by omega)
  clear c6
  by_cases c7 : ((rd l0 0) / 64) = 2
  ·rw [if_pos c7] at H
   have c7b0 : (((rd l0 0) / 64) == 2) = true := beq_iff_eq.mpr c7
   have c7b1 : (((rd l0 0) / 64) != 2) = false := bne_eq_false_iff_eq.mpr c7
   clear c7
   by_cases c8 : (l0.length : Int) < (wrap64 (12 + (wrap64 (4 * (wrap64 (Go.bits .and .u8 (rd l0 0) 15))))))
   ·rw [if_pos c8] at H
    have c8b0 : decide ((l0.length : Int) < (wrap64 (12 + (wrap64 (4 * (wrap64 (Go.bits .and .u8 (rd l0 0) 15))))))) = true := decide_eq_true c8
    clear c8
    simp only [Option.some.injEq, Prod.mk.injEq] at H
    obtain ⟨rfl, rfl, rfl, rfl, rfl, rfl, rfl, rfl, rfl, rfl⟩ := H
    go_enter Try.func47, Try.ntmps47
    go_wp2_with (first | ((with_reducible refine gate_dst (N := 2) rfl ?_); refine box_event ?hg (N := 2) ?hd (cs := #[.bool false, .bool false, .bool false, .int .i64 0, .int .u16 0, .int .u32 0, .int .u32 0, .slice none 0 0]) (t := 43) ?hr ?_; (case hd => rfl); (case hg => rfl); (case hr => first | (go_simp; done) | (go_simp; rfl)); intro gb109 hg w9 hbox hb; have n0_ := bstE HB hb; have BK109 := Aside0.mk (hbox); have GW109 := geE hg HB; have GE109 := geE hg HB; clear HB; have HB := n0_; clear n0_; clear hb hbox hg; have p110 : 0 ≤ (0 : Int) := (by omega); have q110 : 0 < (l0.length : Int) := of_decide_eq_true (by first | (with_reducible assumption) | assumption); obtain ⟨ad110, e110, hx110_0⟩ := Kd.at_int HR0.out 0 p110 q110; cases e110; have qi110 : (0 < l0.length) = True := eq_true (by omega); (try rw [show ((0 : Int)).toNat = 0 from rfl] at hx110_0); (try rw [Addr.add_zero'] at hx110_0); replace hx110_0 := (HB.out.cell (World.block_lt_of_cell? w _ hx110_0)).trans hx110_0; replace p110 := eq_true p110; replace q110 := eq_true q110; have p111 : 0 ≤ (0 : Int) := (by omega); have q111 : 0 < (l0.length : Int) := of_decide_eq_true (by first | (with_reducible assumption) | assumption); obtain ⟨ad111, e111, hx111_0⟩ := Kd.at_int HR0.out 0 p111 q111; obtain rfl : ad110 = ad111 := (by injection e111); have qi111 : (0 < l0.length) = True := eq_true (by omega); (try rw [show ((0 : Int)).toNat = 0 from rfl] at hx111_0); (try rw [Addr.add_zero'] at hx111_0); replace hx111_0 := (HB.out.cell (World.block_lt_of_cell? w _ hx111_0)).trans hx111_0; replace p111 := eq_true p111; replace q111 := eq_true q111; obtain ⟨Z10_0, Z10_1, Z10_2, Z10_3, Z10_4, Z10_5, Z10_6, Z10_7, Y10_0, Y10_1, Y10_2, Y10_3, Y10_4, Y10_5, Y10_6, Y10_7⟩ := bc8 BK109.out) | ((with_reducible refine gate_store (t := 43) (p := 2) rfl ?_); refine store_event (t := 43) (p := 2) (v := ?vo_w11) (w1 := ((((((((w9.setCell ⟨gb109, 0, none⟩ (.bool false)).setCell ⟨gb109, 1, none⟩ (.bool false)).setCell ⟨gb109, 2, none⟩ (.bool false)).setCell ⟨gb109, 3, none⟩ (.int .i64 0)).setCell ⟨gb109, 4, none⟩ (.int .u16 0)).setCell ⟨gb109, 5, none⟩ (.int .u32 0)).setCell ⟨gb109, 6, none⟩ (.int .u32 0)).setCell ⟨gb109, 7, none⟩ (.slice none 0 0))) ?hg ?ho ?hn ?hr ?_; (case ho => rfl); (case hg => rfl); (case hn => rfl); (case hr => first | (go_simp; done) | (go_simp; rfl)); intro w11 hw; replace BK109 : Aside0 (w11.heap[gb109]? = some (.cells #[.bool false, .bool false, .bool false, .int .i64 0, .int .u16 0, .int .u32 0, .int .u32 0, .slice none 0 0] 43 (0, 0))) := ⟨by rw [hw]; apply puts8; exact BK109.out⟩; replace HB := bsE hw HB GE109; clear hw))
    refine bodyPost_ret (results_ctt rfl _ _ gb109 43 #[.bool false, .bool false, .bool false, .int .i64 0, .int .u16 0, .int .u32 0, .int .u32 0, .slice none 0 0] (0, 0) _ rfl (pk BK109) Try.underlying43 rfl (by kernel_rfl)) rfl ?_
    exact ⟨_, by first | rfl | (simp [errW_none, errW_some] <;> rfl) | (simp [*, errW_none, errW_some] <;> rfl), by first | exact Kd.R_nil _ _ _ _ _ | exact Kd.N_nil _ _ _ _ _ | exact Kd.V_nil _ _ _ _ _ | exact Kd.Q_nil _ _ _ _ _ | exact Kd.S_nil _ _ _ _ _, by repeat (first | (with_reducible first | exact HB.out | apply below_alloc | apply pw_below_drewN | apply below_drew1 | refine below_set ?_ GE109.out) | exact HB.out)⟩
   rw [if_neg c8] at H
   have c8b0 : decide ((l0.length : Int) < (wrap64 (12 + (wrap64 (4 * (wrap64 (Go.bits .and .u8 (rd l0 0) 15))))))) = false := decide_eq_false c8
   clear c8
   by_cases c12 : 1 < (l0.length : Int)
   ·rw [if_pos c12] at H
    have c12b0 : decide (1 < (l0.length : Int)) = true := decide_eq_true c12
    have c12b1 : decide (1 < l0.length) = true := decide_eq_true (by omega)
    clear c12
    by_cases c13 : 2 < (l0.length : Int)
    ·rw [if_pos c13] at H
     have c13b0 : decide (2 < (l0.length : Int)) = true := decide_eq_true c13
     have c13b1 : decide (2 < l0.length) = true := decide_eq_true (by omega)
     clear c13
     by_cases c14 : 3 < (l0.length : Int)
     ·rw [if_pos c14] at H
      have c14b0 : decide (3 < (l0.length : Int)) = true := decide_eq_true c14
      have c14b1 : decide (3 < l0.length) = true := decide_eq_true (by omega)
      clear c14
      replace H := Option.bind_eq_some_iff.mp H
      obtain ⟨t118, A150, H⟩ := H
      replace H : ((head_wordAt.f k l0 8).bind fun t119 => (head_Read.l0 k l0 (wrap64 (Go.bits .and .u8 (rd l0 0) 15)) (wrap64 (12 + (wrap64 (4 * (wrap64 (Go.bits .and .u8 (rd l0 0) 15)))))) 0 ((Go.bits .and .u8 (rd l0 0) 32) != 0) ((Go.bits .and .u8 (rd l0 0) 16) != 0) ((Go.bits .and .u8 (rd l0 1) 128) != 0) (wrap64 (Go.bits .and .u8 (rd l0 1) 127)) (Go.bits .or .u16 (IntKind.u16.wrap ((IntKind.u16.wrap (rd l0 2)) * 256)) (IntKind.u16.wrap (rd l0 3))) t118 t119 ([] : List Int))) = some (r1, r2, r3, r4, r5, r6, r7, r8, r9, r10) := H
      have A15 := Aside0.mk A150
      clear A150
      replace H := Option.bind_eq_some_iff.mp H
      obtain ⟨t119, A160, H⟩ := H
      replace H : (head_Read.l0 k l0 (wrap64 (Go.bits .and .u8 (rd l0 0) 15)) (wrap64 (12 + (wrap64 (4 * (wrap64 (Go.bits .and .u8 (rd l0 0) 15)))))) 0 ((Go.bits .and .u8 (rd l0 0) 32) != 0) ((Go.bits .and .u8 (rd l0 0) 16) != 0) ((Go.bits .and .u8 (rd l0 1) 128) != 0) (wrap64 (Go.bits .and .u8 (rd l0 1) 127)) (Go.bits .or .u16 (IntKind.u16.wrap ((IntKind.u16.wrap (rd l0 2)) * 256)) (IntKind.u16.wrap (rd l0 3))) t118 t119 ([] : List Int)) = some (r1, r2, r3, r4, r5, r6, r7, r8, r9, r10) := H
      have A16 := Aside0.mk A160
      clear A160
      have H' := Aside0.mk H
      clear H
      go_enter Try.func47, Try.ntmps47
      try go_wp2_with (first | ((with_reducible refine gate_dst (N := 2) rfl ?_); refine box_event ?hg (N := 2) ?hd (cs := #[.bool false, .bool false, .bool false, .int .i64 0, .int .u16 0, .int .u32 0, .int .u32 0, .slice none 0 0]) (t := 43) ?hr ?_; (case hd => rfl); (case hg => rfl); (case hr => first | (go_simp; done) | (go_simp; rfl)); intro gb109 hg w17 hbox hb; have n0_ := bstE HB hb; have BK109 := Aside0.mk (hbox); have GW109 := geE hg HB; have GE109 := geE hg HB; clear HB; have HB := n0_; clear n0_; clear hb hbox hg; have p110 : 0 ≤ (0 : Int) := (by omega); have q110 : 0 < (l0.length : Int) := of_decide_eq_true (by first | (with_reducible assumption) | assumption); obtain ⟨ad110, e110, hx110_0⟩ := Kd.at_int HR0.out 0 p110 q110; cases e110; have qi110 : (0 < l0.length) = True := eq_true (by omega); (try rw [show ((0 : Int)).toNat = 0 from rfl] at hx110_0); (try rw [Addr.add_zero'] at hx110_0); replace hx110_0 := (HB.out.cell (World.block_lt_of_cell? w _ hx110_0)).trans hx110_0; replace p110 := eq_true p110; replace q110 := eq_true q110; have p111 : 0 ≤ (0 : Int) := (by omega); have q111 : 0 < (l0.length : Int) := of_decide_eq_true (by first | (with_reducible assumption) | assumption); obtain ⟨ad111, e111, hx111_0⟩ := Kd.at_int HR0.out 0 p111 q111; obtain rfl : ad110 = ad111 := (by injection e111); have qi111 : (0 < l0.length) = True := eq_true (by omega); (try rw [show ((0 : Int)).toNat = 0 from rfl] at hx111_0); (try rw [Addr.add_zero'] at hx111_0); replace hx111_0 := (HB.out.cell (World.block_lt_of_cell? w _ hx111_0)).trans hx111_0; replace p111 := eq_true p111; replace q111 := eq_true q111))
      replace BK109 := Aside0.mk (blk_drew BK109.out)
      replace HB := Aside0.mk (below_drew1 HB.out)
      have p112 : 0 ≤ (0 : Int) := (by omega)
      have q112 : 0 < (l0.length : Int) := of_decide_eq_true (by first | (with_reducible assumption) | assumption)
      obtain ⟨ad112, e112, hx112_0⟩ := Kd.at_int HR0.out 0 p112 q112
      have hw112_0 := hx112_0
      (try rw [show ((0 : Int)).toNat = 0 from rfl] at hw112_0)
      (try rw [show 0 * 1 = 0 from rfl] at hw112_0)
      (try rw [Addr.add_zero'] at hw112_0)
      obtain rfl : ad110 = ad112 := (by injection e112)
      have qi112 : (0 < l0.length) = True := eq_true (by omega)
      (try rw [show ((0 : Int)).toNat = 0 from rfl] at hx112_0)
      (try rw [Addr.add_zero'] at hx112_0)
      replace hx112_0 := (HB.out.cell (World.block_lt_of_cell? w _ hx112_0)).trans hx112_0
      replace p112 := eq_true p112
      replace q112 := eq_true q112
      have p113 : 0 ≤ (0 : Int) := (by omega)
      have q113 : 0 < (l0.length : Int) := of_decide_eq_true (by first | (with_reducible assumption) | assumption)
      obtain ⟨ad113, e113, hx113_0⟩ := Kd.at_int HR0.out 0 p113 q113
      have hw113_0 := hx113_0
      (try rw [show ((0 : Int)).toNat = 0 from rfl] at hw113_0)
      (try rw [show 0 * 1 = 0 from rfl] at hw113_0)
      (try rw [Addr.add_zero'] at hw113_0)
      obtain rfl : ad110 = ad113 := (by injection e113)
      have qi113 : (0 < l0.length) = True := eq_true (by omega)
      (try rw [show ((0 : Int)).toNat = 0 from rfl] at hx113_0)
      (try rw [Addr.add_zero'] at hx113_0)
      replace hx113_0 := (HB.out.cell (World.block_lt_of_cell? w _ hx113_0)).trans hx113_0
      replace p113 := eq_true p113
      replace q113 := eq_true q113
      have p114 : 0 ≤ (1 : Int) := (by omega)
      have q114 : 1 < (l0.length : Int) := of_decide_eq_true (by first | (with_reducible assumption) | assumption)
      obtain ⟨ad114, e114, hx114_0⟩ := Kd.at_int HR0.out 1 p114 q114
      have hw114_0 := hx114_0
      (try rw [show ((1 : Int)).toNat = 1 from rfl] at hw114_0)
      (try rw [show 1 * 1 = 1 from rfl] at hw114_0)
      (try simp only [Nat.reduceMul, Nat.reduceEqDiff, Go.Addr.add, ↓reduceIte] at hw114_0)
      obtain rfl : ad110 = ad114 := (by injection e114)
      (try simp only [show (1 : Int).toNat = 1 from rfl, Nat.reduceMul, Nat.reduceEqDiff, Go.Addr.add, ↓reduceIte] at hx114_0)
      have qi114 : (1 < l0.length) = True := eq_true (by omega)
      (try rw [show ((1 : Int)).toNat = 1 from rfl] at hx114_0)
      replace hx114_0 := (HB.out.cell (World.block_lt_of_cell? w _ hx114_0)).trans hx114_0
      replace p114 := eq_true p114
      replace q114 := eq_true q114
      have p115 : 0 ≤ (1 : Int) := (by omega)
      have q115 : 1 < (l0.length : Int) := of_decide_eq_true (by first | (with_reducible assumption) | assumption)
      obtain ⟨ad115, e115, hx115_0⟩ := Kd.at_int HR0.out 1 p115 q115
      have hw115_0 := hx115_0
      (try rw [show ((1 : Int)).toNat = 1 from rfl] at hw115_0)
      (try rw [show 1 * 1 = 1 from rfl] at hw115_0)
      (try simp only [Nat.reduceMul, Nat.reduceEqDiff, Go.Addr.add, ↓reduceIte] at hw115_0)
      obtain rfl : ad110 = ad115 := (by injection e115)
      (try simp only [show (1 : Int).toNat = 1 from rfl, Nat.reduceMul, Nat.reduceEqDiff, Go.Addr.add, ↓reduceIte] at hx115_0)
      have qi115 : (1 < l0.length) = True := eq_true (by omega)
      (try rw [show ((1 : Int)).toNat = 1 from rfl] at hx115_0)
      replace hx115_0 := (HB.out.cell (World.block_lt_of_cell? w _ hx115_0)).trans hx115_0
      replace p115 := eq_true p115
      replace q115 := eq_true q115
      have p116 : 0 ≤ (2 : Int) := (by omega)
      have q116 : 2 < (l0.length : Int) := of_decide_eq_true (by first | (with_reducible assumption) | assumption)
      obtain ⟨ad116, e116, hx116_0⟩ := Kd.at_int HR0.out 2 p116 q116
      have hw116_0 := hx116_0
      (try rw [show ((2 : Int)).toNat = 2 from rfl] at hw116_0)
      (try rw [show 2 * 1 = 2 from rfl] at hw116_0)
      (try simp only [Nat.reduceMul, Nat.reduceEqDiff, Go.Addr.add, ↓reduceIte] at hw116_0)
      obtain rfl : ad110 = ad116 := (by injection e116)
      (try simp only [show (2 : Int).toNat = 2 from rfl, Nat.reduceMul, Nat.reduceEqDiff, Go.Addr.add, ↓reduceIte] at hx116_0)
      have qi116 : (2 < l0.length) = True := eq_true (by omega)
      (try rw [show ((2 : Int)).toNat = 2 from rfl] at hx116_0)
      replace hx116_0 := (HB.out.cell (World.block_lt_of_cell? w _ hx116_0)).trans hx116_0
      replace p116 := eq_true p116
      replace q116 := eq_true q116
      have p117 : 0 ≤ (3 : Int) := (by omega)
      have q117 : 3 < (l0.length : Int) := of_decide_eq_true (by first | (with_reducible assumption) | assumption)
      obtain ⟨ad117, e117, hx117_0⟩ := Kd.at_int HR0.out 3 p117 q117
      have hw117_0 := hx117_0
      (try rw [show ((3 : Int)).toNat = 3 from rfl] at hw117_0)
      (try rw [show 3 * 1 = 3 from rfl] at hw117_0)
      (try simp only [Nat.reduceMul, Nat.reduceEqDiff, Go.Addr.add, ↓reduceIte] at hw117_0)
      obtain rfl : ad110 = ad117 := (by injection e117)
      (try simp only [show (3 : Int).toNat = 3 from rfl, Nat.reduceMul, Nat.reduceEqDiff, Go.Addr.add, ↓reduceIte] at hx117_0)
      have qi117 : (3 < l0.length) = True := eq_true (by omega)
      (try rw [show ((3 : Int)).toNat = 3 from rfl] at hx117_0)
      replace hx117_0 := (HB.out.cell (World.block_lt_of_cell? w _ hx117_0)).trans hx117_0
      replace p117 := eq_true p117
      replace q117 := eq_true q117
      refine start_ (n := 37) (S := fun w' => w'.cell? ad110 = some (.int .u8 (rd l0 0)) ∧ w'.cell? ad110 = some (.int .u8 (rd l0 0)) ∧ w'.cell? ⟨ad110.block, ad110.off + 1, none⟩ = some (.int .u8 (rd l0 1)) ∧ w'.cell? ⟨ad110.block, ad110.off + 1, none⟩ = some (.int .u8 (rd l0 1)) ∧ w'.cell? ⟨ad110.block, ad110.off + 2, none⟩ = some (.int .u8 (rd l0 2)) ∧ w'.cell? ⟨ad110.block, ad110.off + 3, none⟩ = some (.int .u8 (rd l0 3))) (ds := []) #[false, false, false, false, false, false, false, false, false, false, false, false, false, false, false, false, false, false, false, false, false, false, false, false, false, false, false, false, false, false, false, false, false, false, false, false, false] (by kernel_rfl) rfl rfl ⟨((HB.out.cell (World.block_lt_of_cell? w _ hw112_0)).trans hw112_0), ((HB.out.cell (World.block_lt_of_cell? w _ hw113_0)).trans hw113_0), ((HB.out.cell (World.block_lt_of_cell? w _ hw114_0)).trans hw114_0), ((HB.out.cell (World.block_lt_of_cell? w _ hw115_0)).trans hw115_0), ((HB.out.cell (World.block_lt_of_cell? w _ hw116_0)).trans hw116_0), ((HB.out.cell (World.block_lt_of_cell? w _ hw117_0)).trans hw117_0)⟩ (fun hHeld => ?_); refine with_tabW head_Read.tab9 head_Read.bits9 (fun HT_ HW_ => ?_)
      generalize w17.drew = w18 at BK109 HB hx112_0 hx113_0 hx114_0 hx115_0 hx116_0 hx117_0 hHeld ⊢
      refine pure_ (i := 0) (N := some 32) (v := ?_) (a' := ?_) #[true, false, false, false, false, false, false, false, false, false, false, false, false, false, false, false, false, false, false, false, false, false, false, false, false, false, false, false, false, false, false, false, false, false, false, false, false] rfl rfl (any_of HT_.out (by kernel_rfl)) (fun _ _ _ h => h) (Or.inl ⟨by rfl, ?_⟩) ?_ ?_
      rotate_left
      ·intro w'
       go_simp
       with_reducible rfl
      rotate_left
      ·simp only [Act.put, List.setIfInBounds_toArray, List.set_cons_zero, List.set_cons_succ, i64_w, i32_w]
       rfl
      refine pure_ (i := 1) (N := some 33) (v := ?_) (a' := ?_) #[true, true, false, false, false, false, false, false, false, false, false, false, false, false, false, false, false, false, false, false, false, false, false, false, false, false, false, false, false, false, false, false, false, false, false, false, false] rfl rfl (any_of HT_.out (by kernel_rfl)) (fun _ _ _ h => h) (Or.inl ⟨by rfl, ?_⟩) ?_ ?_
      rotate_left
      ·intro w'
       go_simp
       with_reducible rfl
      rotate_left
      ·simp only [Act.put, List.setIfInBounds_toArray, List.set_cons_zero, List.set_cons_succ, i64_w, i32_w]
       rfl
      refine pure_ (i := 5) (N := some 37) (v := ?_) (a' := ?_) #[true, true, false, false, false, true, false, false, false, false, false, false, false, false, false, false, false, false, false, false, false, false, false, false, false, false, false, false, false, false, false, false, false, false, false, false, false] rfl rfl (any_of HT_.out (by kernel_rfl)) (fun _ _ _ h => h) (Or.inl ⟨by rfl, ?_⟩) ?_ ?_
      rotate_left
      ·intro w'
       go_simp
       with_reducible rfl
      rotate_left
      ·simp only [Act.put, List.setIfInBounds_toArray, List.set_cons_zero, List.set_cons_succ, i64_w, i32_w]
       rfl
      refine pure_ (i := 6) (N := some 38) (v := ?_) (a' := ?_) #[true, true, false, false, false, true, true, false, false, false, false, false, false, false, false, false, false, false, false, false, false, false, false, false, false, false, false, false, false, false, false, false, false, false, false, false, false] rfl rfl (any_of HT_.out (by kernel_rfl)) (fun _ _ _ h => h) (Or.inl ⟨by rfl, ?_⟩) ?_ ?_
      rotate_left
      ·intro w'
       go_simp
       with_reducible rfl
      rotate_left
      ·simp only [Act.put, List.setIfInBounds_toArray, List.set_cons_zero, List.set_cons_succ, i64_w, i32_w]
       rfl
      refine pure_ (i := 10) (N := some 42) (v := ?_) (a' := ?_) #[true, true, false, false, false, true, true, false, false, false, true, false, false, false, false, false, false, false, false, false, false, false, false, false, false, false, false, false, false, false, false, false, false, false, false, false, false] rfl rfl (any_of HT_.out (by kernel_rfl)) (fun _ _ _ h => h) (Or.inl ⟨by rfl, ?_⟩) ?_ ?_
      rotate_left
      ·intro w'
       go_simp
       with_reducible rfl
      rotate_left
      ·simp only [Act.put, List.setIfInBounds_toArray, List.set_cons_zero, List.set_cons_succ, i64_w, i32_w]
       rfl
      refine pure_ (i := 11) (N := some 43) (v := ?_) (a' := ?_) #[true, true, false, false, false, true, true, false, false, false, true, true, false, false, false, false, false, false, false, false, false, false, false, false, false, false, false, false, false, false, false, false, false, false, false, false, false] rfl rfl (any_of HT_.out (by kernel_rfl)) (fun _ _ _ h => h) (Or.inl ⟨by rfl, ?_⟩) ?_ ?_
      rotate_left
      ·intro w'
       go_simp
       with_reducible rfl
      rotate_left
      ·simp only [Act.put, List.setIfInBounds_toArray, List.set_cons_zero, List.set_cons_succ, i64_w, i32_w]
       rfl
      refine pure_ (i := 15) (N := some 47) (v := ?_) (a' := ?_) #[true, true, false, false, false, true, true, false, false, false, true, true, false, false, false, true, false, false, false, false, false, false, false, false, false, false, false, false, false, false, false, false, false, false, false, false, false] rfl rfl (any_of HT_.out (by kernel_rfl)) (fun _ _ _ h => h) (Or.inl ⟨by rfl, ?_⟩) ?_ ?_
      rotate_left
      ·intro w'
       go_simp
       with_reducible rfl
      rotate_left
      ·simp only [Act.put, List.setIfInBounds_toArray, List.set_cons_zero, List.set_cons_succ, i64_w, i32_w]
       rfl
      refine pure_ (i := 16) (N := some 48) (v := ?_) (a' := ?_) #[true, true, false, false, false, true, true, false, false, false, true, true, false, false, false, true, true, false, false, false, false, false, false, false, false, false, false, false, false, false, false, false, false, false, false, false, false] rfl rfl (any_of HT_.out (by kernel_rfl)) (fun _ _ _ h => h) (Or.inl ⟨by rfl, ?_⟩) ?_ ?_
      rotate_left
      ·intro w'
       go_simp
       with_reducible rfl
      rotate_left
      ·simp only [Act.put, List.setIfInBounds_toArray, List.set_cons_zero, List.set_cons_succ, i64_w, i32_w]
       rfl
      refine pure_ (i := 20) (N := some 52) (v := ?_) (a' := ?_) #[true, true, false, false, false, true, true, false, false, false, true, true, false, false, false, true, true, false, false, false, true, false, false, false, false, false, false, false, false, false, false, false, false, false, false, false, false] rfl rfl (any_of HT_.out (by kernel_rfl)) (fun _ _ _ h => h) (Or.inl ⟨by rfl, ?_⟩) ?_ ?_
      rotate_left
      ·intro w'
       go_simp
       with_reducible rfl
      rotate_left
      ·simp only [Act.put, List.setIfInBounds_toArray, List.set_cons_zero, List.set_cons_succ, i64_w, i32_w]
       rfl
      refine pure_ (i := 21) (N := some 53) (v := ?_) (a' := ?_) #[true, true, false, false, false, true, true, false, false, false, true, true, false, false, false, true, true, false, false, false, true, true, false, false, false, false, false, false, false, false, false, false, false, false, false, false, false] rfl rfl (any_of HT_.out (by kernel_rfl)) (fun _ _ _ h => h) (Or.inl ⟨by rfl, ?_⟩) ?_ ?_
      rotate_left
      ·intro w'
       go_simp
       with_reducible rfl
      rotate_left
      ·simp only [Act.put, List.setIfInBounds_toArray, List.set_cons_zero, List.set_cons_succ, i64_w, i32_w]
       rfl
      refine pure_ (i := 25) (N := some 57) (v := ?_) (a' := ?_) #[true, true, false, false, false, true, true, false, false, false, true, true, false, false, false, true, true, false, false, false, true, true, false, false, false, true, false, false, false, false, false, false, false, false, false, false, false] rfl rfl (any_of HT_.out (by kernel_rfl)) (fun _ _ _ h => h) (Or.inl ⟨by rfl, ?_⟩) ?_ ?_
      rotate_left
      ·intro w'
       go_simp
       with_reducible rfl
      rotate_left
      ·simp only [Act.put, List.setIfInBounds_toArray, List.set_cons_zero, List.set_cons_succ, i64_w, i32_w]
       rfl
      refine pure_ (i := 26) (N := some 58) (v := ?_) (a' := ?_) #[true, true, false, false, false, true, true, false, false, false, true, true, false, false, false, true, true, false, false, false, true, true, false, false, false, true, true, false, false, false, false, false, false, false, false, false, false] rfl rfl (any_of HT_.out (by kernel_rfl)) (fun _ _ _ h => h) (Or.inl ⟨by rfl, ?_⟩) ?_ ?_
      rotate_left
      ·intro w'
       go_simp
       with_reducible rfl
      rotate_left
      ·simp only [Act.put, List.setIfInBounds_toArray, List.set_cons_zero, List.set_cons_succ, i64_w, i32_w]
       rfl
      refine pure_ (i := 30) (N := some 62) (v := ?_) (a' := ?_) #[true, true, false, false, false, true, true, false, false, false, true, true, false, false, false, true, true, false, false, false, true, true, false, false, false, true, true, false, false, false, true, false, false, false, false, false, false] rfl rfl (any_of HT_.out (by kernel_rfl)) (fun _ _ _ h => h) (Or.inl ⟨by rfl, ?_⟩) ?_ ?_
      rotate_left
      ·intro w'
       go_simp
       with_reducible rfl
      rotate_left
      ·simp only [Act.put, List.setIfInBounds_toArray, List.set_cons_zero, List.set_cons_succ, i64_w, i32_w]
       rfl
      refine pure_ (i := 32) (N := some 64) (v := ?_) (a' := ?_) #[true, true, false, false, false, true, true, false, false, false, true, true, false, false, false, true, true, false, false, false, true, true, false, false, false, true, true, false, false, false, true, false, true, false, false, false, false] rfl rfl (any_of HT_.out (by kernel_rfl)) (fun _ _ _ h => h) (Or.inl ⟨by rfl, ?_⟩) ?_ ?_
      rotate_left
      ·intro w'
       go_simp
       with_reducible rfl
      rotate_left
      ·simp only [Act.put, List.setIfInBounds_toArray, List.set_cons_zero, List.set_cons_succ, i64_w, i32_w]
       rfl
      refine take_ (i := 2) (N := some 34) (v := ?_) (a' := ?_) #[true, true, true, false, false, true, true, false, false, false, true, true, false, false, false, true, true, false, false, false, true, true, false, false, false, true, true, false, false, false, true, false, true, false, false, false, false] rfl rfl (take_ofW HT_.out HW_.out (by kernel_rfl)) (fun _ _ _ h => h) (Or.inl ⟨by rfl, ?_⟩) hHeld ?_ ?_
      rotate_left
      ·rintro w' ⟨s0, s1, s2, s3, s4, s5⟩
       go_simp
       with_reducible rfl
      rotate_left
      ·simp only [Act.put, List.setIfInBounds_toArray, List.set_cons_zero, List.set_cons_succ, i64_w, i32_w]
       rfl
      refine pure_ (i := 3) (N := some 35) (v := ?_) (a' := ?_) #[true, true, true, true, false, true, true, false, false, false, true, true, false, false, false, true, true, false, false, false, true, true, false, false, false, true, true, false, false, false, true, false, true, false, false, false, false] rfl rfl (any_of HT_.out (by kernel_rfl)) (fun _ _ _ h => h) (Or.inl ⟨by rfl, ?_⟩) ?_ ?_
      rotate_left
      ·intro w'
       go_simp
       with_reducible rfl
      rotate_left
      ·simp only [Act.put, List.setIfInBounds_toArray, List.set_cons_zero, List.set_cons_succ, i64_w, i32_w]
       rfl
      refine pure_ (i := 4) (N := some 36) (v := ?_) (a' := ?_) #[true, true, true, true, true, true, true, false, false, false, true, true, false, false, false, true, true, false, false, false, true, true, false, false, false, true, true, false, false, false, true, false, true, false, false, false, false] rfl rfl (any_of HT_.out (by kernel_rfl)) (fun _ _ _ h => h) (Or.inl ⟨by rfl, ?_⟩) ?_ ?_
      rotate_left
      ·intro w'
       go_simp
       with_reducible rfl
      rotate_left
      ·simp only [Act.put, List.setIfInBounds_toArray, List.set_cons_zero, List.set_cons_succ, i64_w, i32_w]
       rfl
      refine take_ (i := 7) (N := some 39) (v := ?_) (a' := ?_) #[true, true, true, true, true, true, true, true, false, false, true, true, false, false, false, true, true, false, false, false, true, true, false, false, false, true, true, false, false, false, true, false, true, false, false, false, false] rfl rfl (take_ofW HT_.out HW_.out (by kernel_rfl)) (fun _ _ _ h => h) (Or.inl ⟨by rfl, ?_⟩) hHeld ?_ ?_
      rotate_left
      ·rintro w' ⟨s0, s1, s2, s3, s4, s5⟩
       go_simp
       with_reducible rfl
      rotate_left
      ·simp only [Act.put, List.setIfInBounds_toArray, List.set_cons_zero, List.set_cons_succ, i64_w, i32_w]
       rfl
      refine pure_ (i := 8) (N := some 40) (v := ?_) (a' := ?_) #[true, true, true, true, true, true, true, true, true, false, true, true, false, false, false, true, true, false, false, false, true, true, false, false, false, true, true, false, false, false, true, false, true, false, false, false, false] rfl rfl (any_of HT_.out (by kernel_rfl)) (fun _ _ _ h => h) (Or.inl ⟨by rfl, ?_⟩) ?_ ?_
      rotate_left
      ·intro w'
       go_simp
       with_reducible rfl
      rotate_left
      ·simp only [Act.put, List.setIfInBounds_toArray, List.set_cons_zero, List.set_cons_succ, i64_w, i32_w]
       rfl
      refine pure_ (i := 9) (N := some 41) (v := ?_) (a' := ?_) #[true, true, true, true, true, true, true, true, true, true, true, true, false, false, false, true, true, false, false, false, true, true, false, false, false, true, true, false, false, false, true, false, true, false, false, false, false] rfl rfl (any_of HT_.out (by kernel_rfl)) (fun _ _ _ h => h) (Or.inl ⟨by rfl, ?_⟩) ?_ ?_
      rotate_left
      ·intro w'
       go_simp
       with_reducible rfl
      rotate_left
      ·simp only [Act.put, List.setIfInBounds_toArray, List.set_cons_zero, List.set_cons_succ, i64_w, i32_w]
       rfl
      refine take_ (i := 12) (N := some 44) (v := ?_) (a' := ?_) #[true, true, true, true, true, true, true, true, true, true, true, true, true, false, false, true, true, false, false, false, true, true, false, false, false, true, true, false, false, false, true, false, true, false, false, false, false] rfl rfl (take_ofW HT_.out HW_.out (by kernel_rfl)) (fun _ _ _ h => h) (Or.inl ⟨by rfl, ?_⟩) hHeld ?_ ?_
      rotate_left
      ·rintro w' ⟨s0, s1, s2, s3, s4, s5⟩
       go_simp
       with_reducible rfl
      rotate_left
      ·simp only [Act.put, List.setIfInBounds_toArray, List.set_cons_zero, List.set_cons_succ, i64_w, i32_w]
       rfl
      refine pure_ (i := 13) (N := some 45) (v := ?_) (a' := ?_) #[true, true, true, true, true, true, true, true, true, true, true, true, true, true, false, true, true, false, false, false, true, true, false, false, false, true, true, false, false, false, true, false, true, false, false, false, false] rfl rfl (any_of HT_.out (by kernel_rfl)) (fun _ _ _ h => h) (Or.inl ⟨by rfl, ?_⟩) ?_ ?_
      rotate_left
      ·intro w'
       go_simp
       with_reducible rfl
      rotate_left
      ·simp only [Act.put, List.setIfInBounds_toArray, List.set_cons_zero, List.set_cons_succ, i64_w, i32_w]
       rfl
      refine pure_ (i := 14) (N := some 46) (v := ?_) (a' := ?_) #[true, true, true, true, true, true, true, true, true, true, true, true, true, true, true, true, true, false, false, false, true, true, false, false, false, true, true, false, false, false, true, false, true, false, false, false, false] rfl rfl (any_of HT_.out (by kernel_rfl)) (fun _ _ _ h => h) (Or.inl ⟨by rfl, ?_⟩) ?_ ?_
      rotate_left
      ·intro w'
       go_simp
       with_reducible rfl
      rotate_left
      ·simp only [Act.put, List.setIfInBounds_toArray, List.set_cons_zero, List.set_cons_succ, i64_w, i32_w]
       rfl
      refine take_ (i := 17) (N := some 49) (v := ?_) (a' := ?_) #[true, true, true, true, true, true, true, true, true, true, true, true, true, true, true, true, true, true, false, false, true, true, false, false, false, true, true, false, false, false, true, false, true, false, false, false, false] rfl rfl (take_ofW HT_.out HW_.out (by kernel_rfl)) (fun _ _ _ h => h) (Or.inl ⟨by rfl, ?_⟩) hHeld ?_ ?_
      rotate_left
      ·rintro w' ⟨s0, s1, s2, s3, s4, s5⟩
       go_simp
       with_reducible rfl
      rotate_left
      ·simp only [Act.put, List.setIfInBounds_toArray, List.set_cons_zero, List.set_cons_succ, i64_w, i32_w]
       rfl
      refine pure_ (i := 18) (N := some 50) (v := ?_) (a' := ?_) #[true, true, true, true, true, true, true, true, true, true, true, true, true, true, true, true, true, true, true, false, true, true, false, false, false, true, true, false, false, false, true, false, true, false, false, false, false] rfl rfl (any_of HT_.out (by kernel_rfl)) (fun _ _ _ h => h) (Or.inl ⟨by rfl, ?_⟩) ?_ ?_
      rotate_left
      ·intro w'
       go_simp
       with_reducible rfl
      rotate_left
      ·simp only [Act.put, List.setIfInBounds_toArray, List.set_cons_zero, List.set_cons_succ, i64_w, i32_w]
       rfl
      refine pure_ (i := 19) (N := some 51) (v := ?_) (a' := ?_) #[true, true, true, true, true, true, true, true, true, true, true, true, true, true, true, true, true, true, true, true, true, true, false, false, false, true, true, false, false, false, true, false, true, false, false, false, false] rfl rfl (any_of HT_.out (by kernel_rfl)) (fun _ _ _ h => h) (Or.inl ⟨by rfl, ?_⟩) ?_ ?_
      rotate_left
      ·intro w'
       go_simp
       with_reducible rfl
      rotate_left
      ·simp only [Act.put, List.setIfInBounds_toArray, List.set_cons_zero, List.set_cons_succ, i64_w, i32_w]
       rfl
      refine take_ (i := 22) (N := some 54) (v := ?_) (a' := ?_) #[true, true, true, true, true, true, true, true, true, true, true, true, true, true, true, true, true, true, true, true, true, true, true, false, false, true, true, false, false, false, true, false, true, false, false, false, false] rfl rfl (take_ofW HT_.out HW_.out (by kernel_rfl)) (fun _ _ _ h => h) (Or.inl ⟨by rfl, ?_⟩) hHeld ?_ ?_
      rotate_left
      ·rintro w' ⟨s0, s1, s2, s3, s4, s5⟩
       go_simp
       with_reducible rfl
      rotate_left
      ·simp only [Act.put, List.setIfInBounds_toArray, List.set_cons_zero, List.set_cons_succ, i64_w, i32_w]
       rfl
      refine pure_ (i := 23) (N := some 55) (v := ?_) (a' := ?_) #[true, true, true, true, true, true, true, true, true, true, true, true, true, true, true, true, true, true, true, true, true, true, true, true, false, true, true, false, false, false, true, false, true, false, false, false, false] rfl rfl (any_of HT_.out (by kernel_rfl)) (fun _ _ _ h => h) (Or.inl ⟨by rfl, ?_⟩) ?_ ?_
      rotate_left
      ·intro w'
       go_simp
       with_reducible rfl
      rotate_left
      ·simp only [Act.put, List.setIfInBounds_toArray, List.set_cons_zero, List.set_cons_succ, i64_w, i32_w]
       rfl
      refine pure_ (i := 24) (N := some 56) (v := ?_) (a' := ?_) #[true, true, true, true, true, true, true, true, true, true, true, true, true, true, true, true, true, true, true, true, true, true, true, true, true, true, true, false, false, false, true, false, true, false, false, false, false] rfl rfl (any_of HT_.out (by kernel_rfl)) (fun _ _ _ h => h) (Or.inl ⟨by rfl, ?_⟩) ?_ ?_
      rotate_left
      ·intro w'
       go_simp
       with_reducible rfl
      rotate_left
      ·simp only [Act.put, List.setIfInBounds_toArray, List.set_cons_zero, List.set_cons_succ, i64_w, i32_w]
       rfl
      refine take_ (i := 27) (N := some 59) (v := ?_) (a' := ?_) #[true, true, true, true, true, true, true, true, true, true, true, true, true, true, true, true, true, true, true, true, true, true, true, true, true, true, true, true, false, false, true, false, true, false, false, false, false] rfl rfl (take_ofW HT_.out HW_.out (by kernel_rfl)) (fun _ _ _ h => h) (Or.inl ⟨by rfl, ?_⟩) hHeld ?_ ?_
      rotate_left
      ·rintro w' ⟨s0, s1, s2, s3, s4, s5⟩
       go_simp
       with_reducible rfl
      rotate_left
      ·simp only [Act.put, List.setIfInBounds_toArray, List.set_cons_zero, List.set_cons_succ, i64_w, i32_w]
       rfl
      refine pure_ (i := 28) (N := some 60) (v := ?_) (a' := ?_) #[true, true, true, true, true, true, true, true, true, true, true, true, true, true, true, true, true, true, true, true, true, true, true, true, true, true, true, true, true, false, true, false, true, false, false, false, false] rfl rfl (any_of HT_.out (by kernel_rfl)) (fun _ _ _ h => h) (Or.inl ⟨by rfl, ?_⟩) ?_ ?_
      rotate_left
      ·intro w'
       go_simp
       with_reducible rfl
      rotate_left
      ·simp only [Act.put, List.setIfInBounds_toArray, List.set_cons_zero, List.set_cons_succ, i64_w, i32_w]
       rfl
      refine pure_ (i := 29) (N := some 61) (v := ?_) (a' := ?_) #[true, true, true, true, true, true, true, true, true, true, true, true, true, true, true, true, true, true, true, true, true, true, true, true, true, true, true, true, true, true, true, false, true, false, false, false, false] rfl rfl (any_of HT_.out (by kernel_rfl)) (fun _ _ _ h => h) (Or.inl ⟨by rfl, ?_⟩) ?_ ?_
      rotate_left
      ·intro w'
       go_simp
       with_reducible rfl
      rotate_left
      ·simp only [Act.put, List.setIfInBounds_toArray, List.set_cons_zero, List.set_cons_succ, i64_w, i32_w]
       rfl
      refine join_ (σ := Nat) 1 #[true, true, true, true, true, true, true, true, true, true, true, true, true, true, true, true, true, true, true, true, true, true, true, true, true, true, true, true, true, true, true, true, true, true, true, true, false] (fun s_ => [(63, .int .u32 t118), (65, .int .u32 t119), (7, .pointer (some ⟨s_, 0, none⟩)), (66, .agg #[.bool ((Go.bits .and .u8 (rd l0 0) 32) != 0), .bool ((Go.bits .and .u8 (rd l0 0) 16) != 0), .bool ((Go.bits .and .u8 (rd l0 1) 128) != 0), .int .i64 (wrap64 (Go.bits .and .u8 (rd l0 1) 127)), .int .u16 (Go.bits .or .u16 (IntKind.u16.wrap ((IntKind.u16.wrap (rd l0 2)) * 256)) (IntKind.u16.wrap (rd l0 3))), .int .u32 t118, .int .u32 t119, .slice none 0 0])]) (fun s_ w' => (w'.cell? ad110 = some (.int .u8 (rd l0 0)) ∧ w'.cell? ad110 = some (.int .u8 (rd l0 0)) ∧ w'.cell? ⟨ad110.block, ad110.off + 1, none⟩ = some (.int .u8 (rd l0 1)) ∧ w'.cell? ⟨ad110.block, ad110.off + 1, none⟩ = some (.int .u8 (rd l0 1)) ∧ w'.cell? ⟨ad110.block, ad110.off + 2, none⟩ = some (.int .u8 (rd l0 2)) ∧ w'.cell? ⟨ad110.block, ad110.off + 3, none⟩ = some (.int .u8 (rd l0 3))) ∧ (w'.heap[gb109]? = some (.cells #[.bool false, .bool false, .bool false, .int .i64 0, .int .u16 0, .int .u32 0, .int .u32 0, .slice none 0 0] 43 (0, 0))) ∧ (w'.heap[s_]? = some (.cells #[.bool false, .bool false, .bool false, .int .i64 0, .int .u16 0, .int .u32 0, .int .u32 0, .slice none 0 0] 43 (0, 0))) ∧ (w.heap.size ≤ s_) ∧ (w.heap.size ≤ s_) ∧ (gb109 ≠ s_) ∧ (s_ ≠ gb109) ∧ (Below w.heap.size w w')) ?_ ?_
      rotate_left
      ·intro hCont
       refine two_ (i := 31) (j := 35) (Ni := some 63) (Nj := some 7) #[true, true, true, true, true, true, true, true, true, true, true, true, true, true, true, true, true, true, true, true, true, true, true, true, true, true, true, true, true, true, true, true, true, false, false, false, false] #[true, true, true, true, true, true, true, true, true, true, true, true, true, true, true, true, true, true, true, true, true, true, true, true, true, true, true, true, true, true, true, false, true, false, false, true, false] rfl rfl rfl rfl (two_of HT_.out (by kernel_rfl)) (by decide) (by decide) (fun K hK => ?_) (fun K hK => ?_)
       ·skip
        refine goes_ Try.func57 (by kernel_rfl) rfl #[.slice (some ad110) l0.length c0, .int .i64 4] (by rfl) rfl rfl (by (try simp only [List.map_toArray, List.map_cons, List.map_nil]); first | done | rfl | (simp only [List.length_drop, List.length_take]; rfl)) ?_
        with_reducible refine (head_wordAt.calls k _ _ l0 4 t118 _ ?side1 ?side2 A15.out).mono ?_
        (case side1 => exact cbE HR0 HB)
        (case side2 => exact HC0.out)
        rintro e w' ⟨rfl, ⟨nd, rfl⟩⟩
        refine ⟨_, rfl, ?_⟩
        refine hK.out _ _ ⟨((HB.out.cell (World.block_lt_of_cell? w _ hw112_0)).trans hw112_0), ((HB.out.cell (World.block_lt_of_cell? w _ hw113_0)).trans hw113_0), ((HB.out.cell (World.block_lt_of_cell? w _ hw114_0)).trans hw114_0), ((HB.out.cell (World.block_lt_of_cell? w _ hw115_0)).trans hw115_0), ((HB.out.cell (World.block_lt_of_cell? w _ hw116_0)).trans hw116_0), ((HB.out.cell (World.block_lt_of_cell? w _ hw117_0)).trans hw117_0)⟩ (fun hHeld => ?_)
        clear hK K
        refine norm_ (a' := ?_) ?_ ?_
        rotate_left
        ·show Act.put _ (some 63) _ = _
         simp only [Act.put, List.setIfInBounds_toArray, List.set_cons_zero, List.set_cons_succ, i64_w, i32_w]
         rfl
        refine two_ (i := 33) (j := 35) (Ni := some 65) (Nj := some 7) #[true, true, true, true, true, true, true, true, true, true, true, true, true, true, true, true, true, true, true, true, true, true, true, true, true, true, true, true, true, true, true, true, true, true, false, false, false] #[true, true, true, true, true, true, true, true, true, true, true, true, true, true, true, true, true, true, true, true, true, true, true, true, true, true, true, true, true, true, true, true, true, false, false, true, false] rfl rfl rfl rfl (two_of HT_.out (by kernel_rfl)) (by decide) (by decide) (fun K hK => ?_) (fun K hK => ?_)
        ·skip
         refine goes_ Try.func57 (by kernel_rfl) rfl #[.slice (some ad110) l0.length c0, .int .i64 8] (by rfl) rfl rfl (by (try simp only [List.map_toArray, List.map_cons, List.map_nil]); first | done | rfl | (simp only [List.length_drop, List.length_take]; rfl)) ?_
         with_reducible refine (head_wordAt.calls k _ _ l0 8 t119 _ ?side1 ?side2 A16.out).mono ?_
         (case side1 => exact cE (Kd.C_below HR0.out (pB HB)))
         (case side2 => exact HC0.out)
         rintro e w' ⟨rfl, ⟨nd, rfl⟩⟩
         refine ⟨_, rfl, ?_⟩
         refine hK.out _ _ ⟨((HB.out.cell (World.block_lt_of_cell? w _ hw112_0)).trans hw112_0), ((HB.out.cell (World.block_lt_of_cell? w _ hw113_0)).trans hw113_0), ((HB.out.cell (World.block_lt_of_cell? w _ hw114_0)).trans hw114_0), ((HB.out.cell (World.block_lt_of_cell? w _ hw115_0)).trans hw115_0), ((HB.out.cell (World.block_lt_of_cell? w _ hw116_0)).trans hw116_0), ((HB.out.cell (World.block_lt_of_cell? w _ hw117_0)).trans hw117_0)⟩ (fun hHeld => ?_)
         clear hK K
         refine norm_ (a' := ?_) ?_ ?_
         rotate_left
         ·show Act.put _ (some 65) _ = _
          simp only [Act.put, List.setIfInBounds_toArray, List.set_cons_zero, List.set_cons_succ, i64_w, i32_w]
          rfl
         refine pure_ (i := 34) (N := some 66) (v := ?_) (a' := ?_) #[true, true, true, true, true, true, true, true, true, true, true, true, true, true, true, true, true, true, true, true, true, true, true, true, true, true, true, true, true, true, true, true, true, true, true, false, false] rfl rfl (any_of HT_.out (by kernel_rfl)) (fun _ _ _ h => h) (Or.inl ⟨by rfl, ?_⟩) ?_ ?_
         rotate_left
         ·intro w'
          go_simp
          with_reducible rfl
         rotate_left
         ·simp only [Act.put, List.setIfInBounds_toArray, List.set_cons_zero, List.set_cons_succ, i64_w, i32_w]
          rfl
         refine one_ (i := 35) (N := some 7) #[true, true, true, true, true, true, true, true, true, true, true, true, true, true, true, true, true, true, true, true, true, true, true, true, true, true, true, true, true, true, true, true, true, true, true, true, false] rfl rfl (one_of HT_.out (by kernel_rfl)) (by decide) (fun K hK => ?_)
         refine box_step ?hg (N := 7) ?hd (cs := #[.bool false, .bool false, .bool false, .int .i64 0, .int .u16 0, .int .u32 0, .int .u32 0, .slice none 0 0]) (t := 43) ?hr ?_; (case hd => rfl); (case hg => rfl); (case hr => first | (go_simp; done) | (go_simp; rfl))
         intro gb120 hg w19 hbox hb
         have n0_ := bbE BK109 hb
         have n1_ := bstE HB hb
         have BK120 := Aside0.mk (hbox)
         have GW120 := geE hg HB
         have GE120 := geE hg HB
         have NB109_120 := nlE hg BK109
         have NB120_109 := ngE hg BK109
         clear BK109
         clear HB
         have BK109 := n0_
         have HB := n1_
         clear n0_ n1_
         clear hb hbox hg
         refine hK.out _ _ ⟨((HB.out.cell (World.block_lt_of_cell? w _ hw112_0)).trans hw112_0), ((HB.out.cell (World.block_lt_of_cell? w _ hw113_0)).trans hw113_0), ((HB.out.cell (World.block_lt_of_cell? w _ hw114_0)).trans hw114_0), ((HB.out.cell (World.block_lt_of_cell? w _ hw115_0)).trans hw115_0), ((HB.out.cell (World.block_lt_of_cell? w _ hw116_0)).trans hw116_0), ((HB.out.cell (World.block_lt_of_cell? w _ hw117_0)).trans hw117_0)⟩ (fun hHeld => ?_)
         clear hK K
         refine norm_ (a' := ?_) ?_ ?_
         rotate_left
         ·show Act.put _ (some 7) _ = _
          simp only [Act.put, List.setIfInBounds_toArray, List.set_cons_zero, List.set_cons_succ, i64_w, i32_w]
          rfl
         exact norm_ (by simp only [putAll, Act.put, List.setIfInBounds_toArray, List.set_cons_zero, List.set_cons_succ]) (hCont (gb120) _ ⟨hHeld, (pk BK109), (pk BK120), GW120.out, GE120.out, NB109_120.out, NB120_109.out, (pB HB)⟩)
        skip
        refine box_step ?hg (N := 7) ?hd (cs := #[.bool false, .bool false, .bool false, .int .i64 0, .int .u16 0, .int .u32 0, .int .u32 0, .slice none 0 0]) (t := 43) ?hr ?_; (case hd => rfl); (case hg => rfl); (case hr => first | (go_simp; done) | (go_simp; rfl))
        intro gb120 hg w19 hbox hb
        have n0_ := bbE BK109 hb
        have n1_ := bstE HB hb
        have BK120 := Aside0.mk (hbox)
        have GW120 := geE hg HB
        have GE120 := geE hg HB
        have NB109_120 := nlE hg BK109
        have NB120_109 := ngE hg BK109
        clear BK109
        clear HB
        have BK109 := n0_
        have HB := n1_
        clear n0_ n1_
        clear hb hbox hg
        refine hK.out _ _ ⟨((HB.out.cell (World.block_lt_of_cell? w _ hw112_0)).trans hw112_0), ((HB.out.cell (World.block_lt_of_cell? w _ hw113_0)).trans hw113_0), ((HB.out.cell (World.block_lt_of_cell? w _ hw114_0)).trans hw114_0), ((HB.out.cell (World.block_lt_of_cell? w _ hw115_0)).trans hw115_0), ((HB.out.cell (World.block_lt_of_cell? w _ hw116_0)).trans hw116_0), ((HB.out.cell (World.block_lt_of_cell? w _ hw117_0)).trans hw117_0)⟩ (fun hHeld => ?_)
        clear hK K
        refine norm_ (a' := ?_) ?_ ?_
        rotate_left
        ·show Act.put _ (some 7) _ = _
         simp only [Act.put, List.setIfInBounds_toArray, List.set_cons_zero, List.set_cons_succ, i64_w, i32_w]
         rfl
        refine one_ (i := 33) (N := some 65) #[true, true, true, true, true, true, true, true, true, true, true, true, true, true, true, true, true, true, true, true, true, true, true, true, true, true, true, true, true, true, true, true, true, true, false, true, false] rfl rfl (one_of HT_.out (by kernel_rfl)) (by decide) (fun K hK => ?_)
        refine goes_ Try.func57 (by kernel_rfl) rfl #[.slice (some ad110) l0.length c0, .int .i64 8] (by rfl) rfl rfl (by (try simp only [List.map_toArray, List.map_cons, List.map_nil]); first | done | rfl | (simp only [List.length_drop, List.length_take]; rfl)) ?_
        with_reducible refine (head_wordAt.calls k _ _ l0 8 t119 _ ?side1 ?side2 A16.out).mono ?_
        (case side1 => exact cbE HR0 HB)
        (case side2 => exact HC0.out)
        rintro e w' ⟨rfl, ⟨nd, rfl⟩⟩
        refine ⟨_, rfl, ?_⟩
        refine hK.out _ _ ⟨((HB.out.cell (World.block_lt_of_cell? w _ hw112_0)).trans hw112_0), ((HB.out.cell (World.block_lt_of_cell? w _ hw113_0)).trans hw113_0), ((HB.out.cell (World.block_lt_of_cell? w _ hw114_0)).trans hw114_0), ((HB.out.cell (World.block_lt_of_cell? w _ hw115_0)).trans hw115_0), ((HB.out.cell (World.block_lt_of_cell? w _ hw116_0)).trans hw116_0), ((HB.out.cell (World.block_lt_of_cell? w _ hw117_0)).trans hw117_0)⟩ (fun hHeld => ?_)
        clear hK K
        refine norm_ (a' := ?_) ?_ ?_
        rotate_left
        ·show Act.put _ (some 65) _ = _
         simp only [Act.put, List.setIfInBounds_toArray, List.set_cons_zero, List.set_cons_succ, i64_w, i32_w]
         rfl
        refine pure_ (i := 34) (N := some 66) (v := ?_) (a' := ?_) #[true, true, true, true, true, true, true, true, true, true, true, true, true, true, true, true, true, true, true, true, true, true, true, true, true, true, true, true, true, true, true, true, true, true, true, true, false] rfl rfl (any_of HT_.out (by kernel_rfl)) (fun _ _ _ h => h) (Or.inl ⟨by rfl, ?_⟩) ?_ ?_
        rotate_left
        ·intro w'
         go_simp
         with_reducible rfl
        rotate_left
        ·simp only [Act.put, List.setIfInBounds_toArray, List.set_cons_zero, List.set_cons_succ, i64_w, i32_w]
         rfl
        exact norm_ (by simp only [putAll, Act.put, List.setIfInBounds_toArray, List.set_cons_zero, List.set_cons_succ]) (hCont (gb120) _ ⟨hHeld, (pk BK109), (pk BK120), GW120.out, GE120.out, NB109_120.out, NB120_109.out, (pB HB)⟩)
       skip
       refine box_step ?hg (N := 7) ?hd (cs := #[.bool false, .bool false, .bool false, .int .i64 0, .int .u16 0, .int .u32 0, .int .u32 0, .slice none 0 0]) (t := 43) ?hr ?_; (case hd => rfl); (case hg => rfl); (case hr => first | (go_simp; done) | (go_simp; rfl))
       intro gb120 hg w19 hbox hb
       have n0_ := bbE BK109 hb
       have n1_ := bstE HB hb
       have BK120 := Aside0.mk (hbox)
       have GW120 := geE hg HB
       have GE120 := geE hg HB
       have NB109_120 := nlE hg BK109
       have NB120_109 := ngE hg BK109
       clear BK109
       clear HB
       have BK109 := n0_
       have HB := n1_
       clear n0_ n1_
       clear hb hbox hg
       refine hK.out _ _ ⟨((HB.out.cell (World.block_lt_of_cell? w _ hw112_0)).trans hw112_0), ((HB.out.cell (World.block_lt_of_cell? w _ hw113_0)).trans hw113_0), ((HB.out.cell (World.block_lt_of_cell? w _ hw114_0)).trans hw114_0), ((HB.out.cell (World.block_lt_of_cell? w _ hw115_0)).trans hw115_0), ((HB.out.cell (World.block_lt_of_cell? w _ hw116_0)).trans hw116_0), ((HB.out.cell (World.block_lt_of_cell? w _ hw117_0)).trans hw117_0)⟩ (fun hHeld => ?_)
       clear hK K
       refine norm_ (a' := ?_) ?_ ?_
       rotate_left
       ·show Act.put _ (some 7) _ = _
        simp only [Act.put, List.setIfInBounds_toArray, List.set_cons_zero, List.set_cons_succ, i64_w, i32_w]
        rfl
       refine one_ (i := 31) (N := some 63) #[true, true, true, true, true, true, true, true, true, true, true, true, true, true, true, true, true, true, true, true, true, true, true, true, true, true, true, true, true, true, true, true, true, false, false, true, false] rfl rfl (one_of HT_.out (by kernel_rfl)) (by decide) (fun K hK => ?_)
       refine goes_ Try.func57 (by kernel_rfl) rfl #[.slice (some ad110) l0.length c0, .int .i64 4] (by rfl) rfl rfl (by (try simp only [List.map_toArray, List.map_cons, List.map_nil]); first | done | rfl | (simp only [List.length_drop, List.length_take]; rfl)) ?_
       with_reducible refine (head_wordAt.calls k _ _ l0 4 t118 _ ?side1 ?side2 A15.out).mono ?_
       (case side1 => exact cbE HR0 HB)
       (case side2 => exact HC0.out)
       rintro e w' ⟨rfl, ⟨nd, rfl⟩⟩
       refine ⟨_, rfl, ?_⟩
       refine hK.out _ _ ⟨((HB.out.cell (World.block_lt_of_cell? w _ hw112_0)).trans hw112_0), ((HB.out.cell (World.block_lt_of_cell? w _ hw113_0)).trans hw113_0), ((HB.out.cell (World.block_lt_of_cell? w _ hw114_0)).trans hw114_0), ((HB.out.cell (World.block_lt_of_cell? w _ hw115_0)).trans hw115_0), ((HB.out.cell (World.block_lt_of_cell? w _ hw116_0)).trans hw116_0), ((HB.out.cell (World.block_lt_of_cell? w _ hw117_0)).trans hw117_0)⟩ (fun hHeld => ?_)
       clear hK K
       refine norm_ (a' := ?_) ?_ ?_
       rotate_left
       ·show Act.put _ (some 63) _ = _
        simp only [Act.put, List.setIfInBounds_toArray, List.set_cons_zero, List.set_cons_succ, i64_w, i32_w]
        rfl
       refine one_ (i := 33) (N := some 65) #[true, true, true, true, true, true, true, true, true, true, true, true, true, true, true, true, true, true, true, true, true, true, true, true, true, true, true, true, true, true, true, true, true, true, false, true, false] rfl rfl (one_of HT_.out (by kernel_rfl)) (by decide) (fun K hK => ?_)
       refine goes_ Try.func57 (by kernel_rfl) rfl #[.slice (some ad110) l0.length c0, .int .i64 8] (by rfl) rfl rfl (by (try simp only [List.map_toArray, List.map_cons, List.map_nil]); first | done | rfl | (simp only [List.length_drop, List.length_take]; rfl)) ?_
       with_reducible refine (head_wordAt.calls k _ _ l0 8 t119 _ ?side1 ?side2 A16.out).mono ?_
       (case side1 => exact cE (Kd.C_below HR0.out (pB HB)))
       (case side2 => exact HC0.out)
       rintro e w' ⟨rfl, ⟨nd, rfl⟩⟩
       refine ⟨_, rfl, ?_⟩
       refine hK.out _ _ ⟨((HB.out.cell (World.block_lt_of_cell? w _ hw112_0)).trans hw112_0), ((HB.out.cell (World.block_lt_of_cell? w _ hw113_0)).trans hw113_0), ((HB.out.cell (World.block_lt_of_cell? w _ hw114_0)).trans hw114_0), ((HB.out.cell (World.block_lt_of_cell? w _ hw115_0)).trans hw115_0), ((HB.out.cell (World.block_lt_of_cell? w _ hw116_0)).trans hw116_0), ((HB.out.cell (World.block_lt_of_cell? w _ hw117_0)).trans hw117_0)⟩ (fun hHeld => ?_)
       clear hK K
       refine norm_ (a' := ?_) ?_ ?_
       rotate_left
       ·show Act.put _ (some 65) _ = _
        simp only [Act.put, List.setIfInBounds_toArray, List.set_cons_zero, List.set_cons_succ, i64_w, i32_w]
        rfl
       refine pure_ (i := 34) (N := some 66) (v := ?_) (a' := ?_) #[true, true, true, true, true, true, true, true, true, true, true, true, true, true, true, true, true, true, true, true, true, true, true, true, true, true, true, true, true, true, true, true, true, true, true, true, false] rfl rfl (any_of HT_.out (by kernel_rfl)) (fun _ _ _ h => h) (Or.inl ⟨by rfl, ?_⟩) ?_ ?_
       rotate_left
       ·intro w'
        go_simp
        with_reducible rfl
       rotate_left
       ·simp only [Act.put, List.setIfInBounds_toArray, List.set_cons_zero, List.set_cons_succ, i64_w, i32_w]
        rfl
       exact norm_ (by simp only [putAll, Act.put, List.setIfInBounds_toArray, List.set_cons_zero, List.set_cons_succ]) (hCont (gb120) _ ⟨hHeld, (pk BK109), (pk BK120), GW120.out, GE120.out, NB109_120.out, NB120_109.out, (pB HB)⟩)
      rintro gb120 w20 ⟨hS_, h0_, h1_, h2_, h3_, h4_, h5_, h6_⟩
      replace BK109 : Aside0 (w20.heap[gb109]? = some (.cells #[.bool false, .bool false, .bool false, .int .i64 0, .int .u16 0, .int .u32 0, .int .u32 0, .slice none 0 0] 43 (0, 0))) := ⟨h0_⟩
      have BK120 : Aside0 (w20.heap[gb120]? = some (.cells #[.bool false, .bool false, .bool false, .int .i64 0, .int .u16 0, .int .u32 0, .int .u32 0, .slice none 0 0] 43 (0, 0))) := ⟨h1_⟩
      have GW120 : Aside0 (w.heap.size ≤ gb120) := ⟨h2_⟩
      have GE120 : Aside0 (w.heap.size ≤ gb120) := ⟨h3_⟩
      have NB109_120 : Aside0 (gb109 ≠ gb120) := ⟨h4_⟩
      have NB120_109 : Aside0 (gb120 ≠ gb109) := ⟨h5_⟩
      replace HB : Aside0 (Below w.heap.size w w20) := ⟨h6_⟩
      clear h0_ h1_ h2_ h3_ h4_ h5_ h6_
      have hHeld : w20.cell? ad110 = some (.int .u8 (rd l0 0)) ∧ w20.cell? ad110 = some (.int .u8 (rd l0 0)) ∧ w20.cell? ⟨ad110.block, ad110.off + 1, none⟩ = some (.int .u8 (rd l0 1)) ∧ w20.cell? ⟨ad110.block, ad110.off + 1, none⟩ = some (.int .u8 (rd l0 1)) ∧ w20.cell? ⟨ad110.block, ad110.off + 2, none⟩ = some (.int .u8 (rd l0 2)) ∧ w20.cell? ⟨ad110.block, ad110.off + 3, none⟩ = some (.int .u8 (rd l0 3)) := hS_
      refine norm_ (a' := ?_) ?_ ?_
      rotate_left
      ·simp only [putAll, Act.put, List.setIfInBounds_toArray, List.set_cons_zero, List.set_cons_succ]
       rfl
      refine one_ (i := 36) (N := none) #[true, true, true, true, true, true, true, true, true, true, true, true, true, true, true, true, true, true, true, true, true, true, true, true, true, true, true, true, true, true, true, true, true, true, true, true, true] rfl rfl (one_of HT_.out (by kernel_rfl)) (by decide) (fun K hK => ?_)
      have hs21 : w20.cell? ⟨gb120, 0, none⟩ = some (.bool false) := (blk_cell BK120.out 0).trans rfl
      have hfs21 := blk_frozen BK120.out 0
      have hns21_0 := NB109_120.out
      have hms21_0 := NB120_109.out
      have hs22 : w20.cell? ⟨gb120, 1, none⟩ = some (.bool false) := (blk_cell BK120.out 1).trans rfl
      have hfs22 := blk_frozen BK120.out 1
      have hns22_0 := NB109_120.out
      have hms22_0 := NB120_109.out
      have hs23 : w20.cell? ⟨gb120, 2, none⟩ = some (.bool false) := (blk_cell BK120.out 2).trans rfl
      have hfs23 := blk_frozen BK120.out 2
      have hns23_0 := NB109_120.out
      have hms23_0 := NB120_109.out
      have hs24 : w20.cell? ⟨gb120, 3, none⟩ = some (.int .i64 0) := (blk_cell BK120.out 3).trans rfl
      have hfs24 := blk_frozen BK120.out 3
      have hns24_0 := NB109_120.out
      have hms24_0 := NB120_109.out
      have hs25 : w20.cell? ⟨gb120, 4, none⟩ = some (.int .u16 0) := (blk_cell BK120.out 4).trans rfl
      have hfs25 := blk_frozen BK120.out 4
      have hns25_0 := NB109_120.out
      have hms25_0 := NB120_109.out
      have hs26 : w20.cell? ⟨gb120, 5, none⟩ = some (.int .u32 0) := (blk_cell BK120.out 5).trans rfl
      have hfs26 := blk_frozen BK120.out 5
      have hns26_0 := NB109_120.out
      have hms26_0 := NB120_109.out
      have hs27 : w20.cell? ⟨gb120, 6, none⟩ = some (.int .u32 0) := (blk_cell BK120.out 6).trans rfl
      have hfs27 := blk_frozen BK120.out 6
      have hns27_0 := NB109_120.out
      have hms27_0 := NB120_109.out
      have hs28 : w20.cell? ⟨gb120, 7, none⟩ = some (.slice none 0 0) := (blk_cell BK120.out 7).trans rfl
      have hfs28 := blk_frozen BK120.out 7
      have hns28_0 := NB109_120.out
      have hms28_0 := NB120_109.out
      refine skip_ (w1 := ?_) (by rfl) rfl ?_ ?_
      rotate_left
      ·go_simp
       rfl
      refine hK.out _ _ ⟨(by (iterate 8 refine (cell_far (p := ⟨gb120, _, none⟩) (by first | exact Nat.ne_of_lt (Nat.lt_of_lt_of_le (by have := World.block_lt_of_cell? _ _ hw112_0; first | rwa [add_block] at this | exact this) GW120.out) | (rw [add_block]; exact Nat.ne_of_lt (Nat.lt_of_lt_of_le (by have := World.block_lt_of_cell? _ _ hw112_0; first | rwa [add_block] at this | exact this) GW120.out)) | (show (Addr.add _ _).block ≠ _; rw [add_block]; exact Nat.ne_of_lt (Nat.lt_of_lt_of_le (by have := World.block_lt_of_cell? _ _ hw112_0; first | rwa [add_block] at this | exact this) GW120.out)) | (dsimp only; exact Nat.ne_of_lt (Nat.lt_of_lt_of_le (by have := World.block_lt_of_cell? _ _ hw112_0; first | rwa [add_block] at this | exact this) GW120.out))) _).trans ?_); exact hHeld.1), (by (iterate 8 refine (cell_far (p := ⟨gb120, _, none⟩) (by first | exact Nat.ne_of_lt (Nat.lt_of_lt_of_le (by have := World.block_lt_of_cell? _ _ hw113_0; first | rwa [add_block] at this | exact this) GW120.out) | (rw [add_block]; exact Nat.ne_of_lt (Nat.lt_of_lt_of_le (by have := World.block_lt_of_cell? _ _ hw113_0; first | rwa [add_block] at this | exact this) GW120.out)) | (show (Addr.add _ _).block ≠ _; rw [add_block]; exact Nat.ne_of_lt (Nat.lt_of_lt_of_le (by have := World.block_lt_of_cell? _ _ hw113_0; first | rwa [add_block] at this | exact this) GW120.out)) | (dsimp only; exact Nat.ne_of_lt (Nat.lt_of_lt_of_le (by have := World.block_lt_of_cell? _ _ hw113_0; first | rwa [add_block] at this | exact this) GW120.out))) _).trans ?_); exact hHeld.2.1), (by (iterate 8 refine (cell_far (p := ⟨gb120, _, none⟩) (by first | exact Nat.ne_of_lt (Nat.lt_of_lt_of_le (by have := World.block_lt_of_cell? _ _ hw114_0; first | rwa [add_block] at this | exact this) GW120.out) | (rw [add_block]; exact Nat.ne_of_lt (Nat.lt_of_lt_of_le (by have := World.block_lt_of_cell? _ _ hw114_0; first | rwa [add_block] at this | exact this) GW120.out)) | (show (Addr.add _ _).block ≠ _; rw [add_block]; exact Nat.ne_of_lt (Nat.lt_of_lt_of_le (by have := World.block_lt_of_cell? _ _ hw114_0; first | rwa [add_block] at this | exact this) GW120.out)) | (dsimp only; exact Nat.ne_of_lt (Nat.lt_of_lt_of_le (by have := World.block_lt_of_cell? _ _ hw114_0; first | rwa [add_block] at this | exact this) GW120.out))) _).trans ?_); exact hHeld.2.2.1), (by (iterate 8 refine (cell_far (p := ⟨gb120, _, none⟩) (by first | exact Nat.ne_of_lt (Nat.lt_of_lt_of_le (by have := World.block_lt_of_cell? _ _ hw115_0; first | rwa [add_block] at this | exact this) GW120.out) | (rw [add_block]; exact Nat.ne_of_lt (Nat.lt_of_lt_of_le (by have := World.block_lt_of_cell? _ _ hw115_0; first | rwa [add_block] at this | exact this) GW120.out)) | (show (Addr.add _ _).block ≠ _; rw [add_block]; exact Nat.ne_of_lt (Nat.lt_of_lt_of_le (by have := World.block_lt_of_cell? _ _ hw115_0; first | rwa [add_block] at this | exact this) GW120.out)) | (dsimp only; exact Nat.ne_of_lt (Nat.lt_of_lt_of_le (by have := World.block_lt_of_cell? _ _ hw115_0; first | rwa [add_block] at this | exact this) GW120.out))) _).trans ?_); exact hHeld.2.2.2.1), (by (iterate 8 refine (cell_far (p := ⟨gb120, _, none⟩) (by first | exact Nat.ne_of_lt (Nat.lt_of_lt_of_le (by have := World.block_lt_of_cell? _ _ hw116_0; first | rwa [add_block] at this | exact this) GW120.out) | (rw [add_block]; exact Nat.ne_of_lt (Nat.lt_of_lt_of_le (by have := World.block_lt_of_cell? _ _ hw116_0; first | rwa [add_block] at this | exact this) GW120.out)) | (show (Addr.add _ _).block ≠ _; rw [add_block]; exact Nat.ne_of_lt (Nat.lt_of_lt_of_le (by have := World.block_lt_of_cell? _ _ hw116_0; first | rwa [add_block] at this | exact this) GW120.out)) | (dsimp only; exact Nat.ne_of_lt (Nat.lt_of_lt_of_le (by have := World.block_lt_of_cell? _ _ hw116_0; first | rwa [add_block] at this | exact this) GW120.out))) _).trans ?_); exact hHeld.2.2.2.2.1), (by (iterate 8 refine (cell_far (p := ⟨gb120, _, none⟩) (by first | exact Nat.ne_of_lt (Nat.lt_of_lt_of_le (by have := World.block_lt_of_cell? _ _ hw117_0; first | rwa [add_block] at this | exact this) GW120.out) | (rw [add_block]; exact Nat.ne_of_lt (Nat.lt_of_lt_of_le (by have := World.block_lt_of_cell? _ _ hw117_0; first | rwa [add_block] at this | exact this) GW120.out)) | (show (Addr.add _ _).block ≠ _; rw [add_block]; exact Nat.ne_of_lt (Nat.lt_of_lt_of_le (by have := World.block_lt_of_cell? _ _ hw117_0; first | rwa [add_block] at this | exact this) GW120.out)) | (dsimp only; exact Nat.ne_of_lt (Nat.lt_of_lt_of_le (by have := World.block_lt_of_cell? _ _ hw117_0; first | rwa [add_block] at this | exact this) GW120.out))) _).trans ?_); exact hHeld.2.2.2.2.2)⟩ (fun hHeld => ?_)
      clear hK K
      refine done_ (done_of HT_.out (by kernel_rfl)) ?_
      try go_wp2
      go_loopg [8] k (fun kq v8 w' => ∃ (x8_1 : Int) (x121007_1 : List Int) (u121007 : Value), v8 = .int .i64 x8_1 ∧ Aside0 (head_Read.l0 kq l0 (wrap64 (Go.bits .and .u8 (rd l0 0) 15)) (wrap64 (12 + (wrap64 (4 * (wrap64 (Go.bits .and .u8 (rd l0 0) 15)))))) x8_1 ((Go.bits .and .u8 (rd l0 0) 32) != 0) ((Go.bits .and .u8 (rd l0 0) 16) != 0) ((Go.bits .and .u8 (rd l0 1) 128) != 0) (wrap64 (Go.bits .and .u8 (rd l0 1) 127)) (Go.bits .or .u16 (IntKind.u16.wrap ((IntKind.u16.wrap (rd l0 2)) * 256)) (IntKind.u16.wrap (rd l0 3))) t118 t119 x121007_1 = some (r1, r2, r3, r4, r5, r6, r7, r8, r9, r10)) ∧ Aside0 (kq ≤ k) ∧ Aside0 (Kd.R (Kd.int .u32) 40 w' w.heap.size (fun _ => True) u121007 x121007_1) ∧ Aside0 (w'.heap[gb109]? = some (.cells #[.bool false, .bool false, .bool false, .int .i64 0, .int .u16 0, .int .u32 0, .int .u32 0, (.slice none 0 0)] 43 (0, 0))) ∧ Aside0 (w'.heap[gb120]? = some (.cells #[.bool ((Go.bits .and .u8 (rd l0 0) 32) != 0), .bool ((Go.bits .and .u8 (rd l0 0) 16) != 0), .bool ((Go.bits .and .u8 (rd l0 1) 128) != 0), .int .i64 (wrap64 (Go.bits .and .u8 (rd l0 1) 127)), .int .u16 (Go.bits .or .u16 (IntKind.u16.wrap ((IntKind.u16.wrap (rd l0 2)) * 256)) (IntKind.u16.wrap (rd l0 3))), .int .u32 t118, .int .u32 t119, u121007] 43 (0, 0))) ∧ Aside0 (Below w.heap.size w w'))
      case atStart => exact ⟨(0), (([] : List Int)), (.slice none 0 0), (by first | rfl | (simp; done) | (simp [*]; done)), H', ⟨Nat.le_refl _⟩, ⟨by first | exact Kd.R_nil _ _ _ _ _ | exact Kd.N_nil _ _ _ _ _ | exact Kd.V_nil _ _ _ _ _ | exact Kd.Q_nil _ _ _ _ _ | exact Kd.S_nil _ _ _ _ _⟩, ⟨by (with_reducible repeat (first | refine blk_drewN ?_ _ | refine blk_drew ?_ | refine blk_alloc ?_ _)); refine blk_far ?_ NB109_120.out _; (with_reducible repeat (first | refine blk_drewN ?_ _ | refine blk_drew ?_ | refine blk_alloc ?_ _)); refine blk_far ?_ NB109_120.out _; (with_reducible repeat (first | refine blk_drewN ?_ _ | refine blk_drew ?_ | refine blk_alloc ?_ _)); refine blk_far ?_ NB109_120.out _; (with_reducible repeat (first | refine blk_drewN ?_ _ | refine blk_drew ?_ | refine blk_alloc ?_ _)); refine blk_far ?_ NB109_120.out _; (with_reducible repeat (first | refine blk_drewN ?_ _ | refine blk_drew ?_ | refine blk_alloc ?_ _)); refine blk_far ?_ NB109_120.out _; (with_reducible repeat (first | refine blk_drewN ?_ _ | refine blk_drew ?_ | refine blk_alloc ?_ _)); refine blk_far ?_ NB109_120.out _; (with_reducible repeat (first | refine blk_drewN ?_ _ | refine blk_drew ?_ | refine blk_alloc ?_ _)); refine blk_far ?_ NB109_120.out _; (with_reducible repeat (first | refine blk_drewN ?_ _ | refine blk_drew ?_ | refine blk_alloc ?_ _)); refine blk_far ?_ NB109_120.out _; (with_reducible repeat (first | refine blk_drewN ?_ _ | refine blk_drew ?_ | refine blk_alloc ?_ _)); exact BK109.out⟩, ⟨by (with_reducible repeat (first | refine blk_drewN ?_ _ | refine blk_drew ?_ | refine blk_alloc ?_ _)); apply puts8; (with_reducible repeat (first | refine blk_drewN ?_ _ | refine blk_drew ?_ | refine blk_alloc ?_ _)); exact BK120.out⟩, ⟨by repeat (first | (with_reducible first | exact HB.out | apply below_alloc | apply pw_below_drewN | apply below_drew1 | refine below_set ?_ GE109.out | refine below_set ?_ GE120.out) | exact HB.out)⟩⟩
      case round =>
       clear H'
       try clear p1
       try clear q1
       try clear hx1
       try clear qi1
       try clear p2
       try clear c5
       try clear p6
       try clear p11
       try clear q11
       try clear hx11
       try clear qi11
       try clear hx112_0
       try clear hx113_0
       try clear hx114_0
       try clear hx115_0
       try clear hx116_0
       try clear hx117_0
       try clear p112
       try clear p113
       try clear p114
       try clear p115
       try clear p116
       try clear p117
       try clear q112
       try clear q113
       try clear q114
       try clear q115
       try clear q116
       try clear q117
       obtain ⟨x8_1, x121007_1, u121007, rfl, HA, HK1, HO_121007, BK109, BK120, HB⟩ := hrel
       cases gk with
       | zero => exact absurd HA.out (by simp [head_Read.l0])
       | succ k1 =>
        have H := HA.out
        clear HA
        simp only [head_Read.l0] at H
        by_cases c29 : x8_1 < (wrap64 (Go.bits .and .u8 (rd l0 0) 15))
        ·rw [if_pos c29] at H
         have c29b0 : decide (x8_1 < (wrap64 (Go.bits .and .u8 (rd l0 0) 15))) = true := decide_eq_true c29
         clear c29
         replace H := Option.bind_eq_some_iff.mp H
         obtain ⟨t121, A300, H⟩ := H
         replace H : (if x121007_1.length < 35184372088832 then (head_Read.l0 k1 l0 (wrap64 (Go.bits .and .u8 (rd l0 0) 15)) (wrap64 (12 + (wrap64 (4 * (wrap64 (Go.bits .and .u8 (rd l0 0) 15)))))) (wrap64 (x8_1 + 1)) ((Go.bits .and .u8 (rd l0 0) 32) != 0) ((Go.bits .and .u8 (rd l0 0) 16) != 0) ((Go.bits .and .u8 (rd l0 1) 128) != 0) (wrap64 (Go.bits .and .u8 (rd l0 1) 127)) (Go.bits .or .u16 (IntKind.u16.wrap ((IntKind.u16.wrap (rd l0 2)) * 256)) (IntKind.u16.wrap (rd l0 3))) t118 t119 (x121007_1 ++ [t121])) else (none)) = some (r1, r2, r3, r4, r5, r6, r7, r8, r9, r10) := H
         have A30 := Aside0.mk A300
         clear A300
         by_cases c31 : x121007_1.length < 35184372088832
         ·rw [if_pos c31] at H
          have LMc31 := Aside0.mk c31
          clear c31
          obtain ⟨y122, hy122⟩ : ∃ y_ : List Int, y_ = (x121007_1 ++ [t121]) := ⟨_, rfl⟩
          replace H : (head_Read.l0 k1 l0 (wrap64 (Go.bits .and .u8 (rd l0 0) 15)) (wrap64 (12 + (wrap64 (4 * (wrap64 (Go.bits .and .u8 (rd l0 0) 15)))))) (wrap64 (x8_1 + 1)) ((Go.bits .and .u8 (rd l0 0) 32) != 0) ((Go.bits .and .u8 (rd l0 0) 16) != 0) ((Go.bits .and .u8 (rd l0 1) 128) != 0) (wrap64 (Go.bits .and .u8 (rd l0 1) 127)) (Go.bits .or .u16 (IntKind.u16.wrap ((IntKind.u16.wrap (rd l0 2)) * 256)) (IntKind.u16.wrap (rd l0 3))) t118 t119 y122) = some (r1, r2, r3, r4, r5, r6, r7, r8, r9, r10) := by first | (rw [hy122]; with_reducible exact H) | (have H2_ := (Option.bind_some _ _).symm.trans H; rw [hy122]; with_reducible exact H2_) | (have H2_ := (Option.bind_some _ _).symm.trans H; with_reducible exact H2_) | with_reducible exact H | (rw [hy122]; exact H) | exact H
          have Ny122 := Aside0.mk hy122
          clear hy122
          have H' := Aside0.mk H
          clear H
          try go_wp2
          replace HO_121007 := Aside0.mk (Kd.R_drew HO_121007.out)
          replace BK109 := Aside0.mk (blk_drew BK109.out)
          replace BK120 := Aside0.mk (blk_drew BK120.out)
          replace HB := Aside0.mk (below_drew1 HB.out)
          refine start_ (n := 11) (S := fun w' => w'.cell? ⟨gb120, 0, none⟩ = some (.bool ((Go.bits .and .u8 (rd l0 0) 32) != 0)) ∧ w'.cell? ⟨gb120, 1, none⟩ = some (.bool ((Go.bits .and .u8 (rd l0 0) 16) != 0)) ∧ w'.cell? ⟨gb120, 2, none⟩ = some (.bool ((Go.bits .and .u8 (rd l0 1) 128) != 0)) ∧ w'.cell? ⟨gb120, 3, none⟩ = some (.int .i64 (wrap64 (Go.bits .and .u8 (rd l0 1) 127))) ∧ w'.cell? ⟨gb120, 4, none⟩ = some (.int .u16 (Go.bits .or .u16 (IntKind.u16.wrap ((IntKind.u16.wrap (rd l0 2)) * 256)) (IntKind.u16.wrap (rd l0 3)))) ∧ w'.cell? ⟨gb120, 5, none⟩ = some (.int .u32 t118) ∧ w'.cell? ⟨gb120, 6, none⟩ = some (.int .u32 t119) ∧ w'.cell? ⟨gb120, 7, none⟩ = some (u121007)) (ds := [10]) #[false, false, false, false, false, false, false, false, false, false, false] (by kernel_rfl) rfl rfl ⟨(blk_cell BK120.out 0).trans rfl, (blk_cell BK120.out 1).trans rfl, (blk_cell BK120.out 2).trans rfl, (blk_cell BK120.out 3).trans rfl, (blk_cell BK120.out 4).trans rfl, (blk_cell BK120.out 5).trans rfl, (blk_cell BK120.out 6).trans rfl, (blk_cell BK120.out 7).trans rfl⟩ (fun hHeld => ?_); refine with_tabW head_Read.tab13 head_Read.bits13 (fun HT_ HW_ => ?_)
          generalize wr.drew = w32 at HO_121007 BK109 BK120 HB hHeld ⊢
          refine pure_ (i := 0) (N := some 72) (v := ?_) (a' := ?_) #[true, false, false, false, false, false, false, false, false, false, false] rfl rfl (any_of HT_.out (by kernel_rfl)) (fun _ _ _ h => h) (Or.inl ⟨by rfl, ?_⟩) ?_ ?_
          rotate_left
          ·intro w'
           go_simp
           with_reducible rfl
          rotate_left
          ·simp only [Act.put, List.setIfInBounds_toArray, List.set_cons_zero, List.set_cons_succ, i64_w, i32_w]
           rfl
          refine pure_ (i := 2) (N := some 74) (v := ?_) (a' := ?_) #[true, false, true, false, false, false, false, false, false, false, false] rfl rfl (any_of HT_.out (by kernel_rfl)) (fun _ _ _ h => h) (Or.inl ⟨by rfl, ?_⟩) ?_ ?_
          rotate_left
          ·intro w'
           go_simp
           with_reducible rfl
          rotate_left
          ·simp only [Act.put, List.setIfInBounds_toArray, List.set_cons_zero, List.set_cons_succ, i64_w, i32_w]
           rfl
          refine pure_ (i := 3) (N := some 75) (v := ?_) (a' := ?_) #[true, false, true, true, false, false, false, false, false, false, false] rfl rfl (any_of HT_.out (by kernel_rfl)) (fun _ _ _ h => h) (Or.inl ⟨by rfl, ?_⟩) ?_ ?_
          rotate_left
          ·intro w'
           go_simp
           with_reducible rfl
          rotate_left
          ·simp only [Act.put, List.setIfInBounds_toArray, List.set_cons_zero, List.set_cons_succ, i64_w, i32_w]
           rfl
          refine pure_ (i := 4) (N := some 76) (v := ?_) (a' := ?_) #[true, false, true, true, true, false, false, false, false, false, false] rfl rfl (any_of HT_.out (by kernel_rfl)) (fun _ _ _ h => h) (Or.inl ⟨by rfl, ?_⟩) ?_ ?_
          rotate_left
          ·intro w'
           go_simp
           with_reducible rfl
          rotate_left
          ·simp only [Act.put, List.setIfInBounds_toArray, List.set_cons_zero, List.set_cons_succ, i64_w, i32_w]
           rfl
          refine pure_ (i := 5) (N := some 77) (v := ?_) (a' := ?_) #[true, false, true, true, true, true, false, false, false, false, false] rfl rfl (any_of HT_.out (by kernel_rfl)) (fun _ _ _ h => h) (Or.inl ⟨by rfl, ?_⟩) ?_ ?_
          rotate_left
          ·intro w'
           go_simp
           with_reducible rfl
          rotate_left
          ·simp only [Act.put, List.setIfInBounds_toArray, List.set_cons_zero, List.set_cons_succ, i64_w, i32_w]
           rfl
          refine take_ (i := 1) (N := some 73) (v := ?_) (a' := ?_) #[true, true, true, true, true, true, false, false, false, false, false] rfl rfl (take_ofW HT_.out HW_.out (by kernel_rfl)) (fun _ _ _ h => h) (Or.inl ⟨by rfl, ?_⟩) hHeld ?_ ?_
          rotate_left
          ·rintro w' ⟨s0, s1, s2, s3, s4, s5, s6, s7⟩
           go_simp
           with_reducible rfl
          rotate_left
          ·simp only [Act.put, List.setIfInBounds_toArray, List.set_cons_zero, List.set_cons_succ, i64_w, i32_w]
           rfl
          refine one_ (i := 6) (N := some 78) #[true, true, true, true, true, true, true, false, false, false, false] rfl rfl (one_of HT_.out (by kernel_rfl)) (by decide) (fun K hK => ?_)
          refine goes_ Try.func57 (by kernel_rfl) rfl #[.slice (some ad110) l0.length c0, .int .i64 (wrap64 (12 + (wrap64 (4 * x8_1))))] (by rfl) rfl rfl (by (try simp only [List.map_toArray, List.map_cons, List.map_nil]); first | done | rfl | (simp only [List.length_drop, List.length_take]; rfl)) ?_
          with_reducible refine (head_wordAt.calls k1 _ _ l0 (wrap64 (12 + (wrap64 (4 * x8_1)))) t121 _ ?side1 ?side2 A30.out).mono ?_
          (case side1 => exact cbE HR0 HB)
          (case side2 => exact HC0.out)
          rintro e w' ⟨rfl, ⟨nd, rfl⟩⟩
          refine ⟨_, rfl, ?_⟩
          refine hK.out _ _ ⟨(blk_cell BK120.out 0).trans rfl, (blk_cell BK120.out 1).trans rfl, (blk_cell BK120.out 2).trans rfl, (blk_cell BK120.out 3).trans rfl, (blk_cell BK120.out 4).trans rfl, (blk_cell BK120.out 5).trans rfl, (blk_cell BK120.out 6).trans rfl, (blk_cell BK120.out 7).trans rfl⟩ (fun hHeld => ?_)
          clear hK K
          refine norm_ (a' := ?_) ?_ ?_
          rotate_left
          ·show Act.put _ (some 78) _ = _
           simp only [Act.put, List.setIfInBounds_toArray, List.set_cons_zero, List.set_cons_succ, i64_w, i32_w]
           rfl
          refine one_ (i := 7) (N := some 79) #[true, true, true, true, true, true, true, true, false, false, false] rfl rfl (one_of HT_.out (by kernel_rfl)) (by decide) (fun K hK => ?_)
          refine value_ (w1 := ?_) (v := ?_) (by rfl) rfl ?_ ?_
          rotate_left 2
          ·go_simp
           constructor
           ·rfl
           rfl
          refine hK.out _ _ ⟨(blk_cell (blk_alloc BK120.out _) 0).trans rfl, (blk_cell (blk_alloc BK120.out _) 1).trans rfl, (blk_cell (blk_alloc BK120.out _) 2).trans rfl, (blk_cell (blk_alloc BK120.out _) 3).trans rfl, (blk_cell (blk_alloc BK120.out _) 4).trans rfl, (blk_cell (blk_alloc BK120.out _) 5).trans rfl, (blk_cell (blk_alloc BK120.out _) 6).trans rfl, (blk_cell (blk_alloc BK120.out _) 7).trans rfl⟩ (fun hHeld => ?_)
          clear hK K
          refine norm_ (a' := ?_) ?_ ?_
          rotate_left
          ·show Act.put _ (some 79) _ = _
           simp only [Act.put, List.setIfInBounds_toArray, List.set_cons_zero, List.set_cons_succ, i64_w, i32_w]
           rfl
          refine one_ (i := 8) (N := some 80) #[true, true, true, true, true, true, true, true, true, false, false] rfl rfl (one_of HT_.out (by kernel_rfl)) (by decide) (fun K hK => ?_)
          refine Kd.R_append_step (Kd.int .u32) (w0 := w) w.heap.size (by rfl) (.tmp 73) (.tmp 79) 41 40 (.int .u32 0) 4 rfl Try.underlying41 info40 rfl (by decide) (by omega) u121007 x121007_1 t121 [.int .u32 t121] (fun _ => True) (fun _ => False) rfl rfl ?aP (fun _ hk => hk.elim) ?aF ?aO ?aB ?aS ?aL ?_
          (case aP => exact rfl)
          (case aB => exact (pB HB))
          (case aF => exact (fun _ _ => trivial))
          (case aO => exact (pR HO_121007))
          (case aS => exact (below_size (pB HB)))
          (case aL => have := LMc31.out; omega)
          intro v123 w33 ho hb hg hat
          rw [← Ny122.out] at ho
          replace BK109 := Aside0.mk (blk_grown (g := gb109) (o := .cells #[.bool false, .bool false, .bool false, .int .i64 0, .int .u16 0, .int .u32 0, .int .u32 0, .slice none 0 0] 43 (0, 0)) (pk BK109) hg (Kd.R_ne HO_121007.out BK109.out (by decide)))
          replace BK120 := Aside0.mk (blk_grown (g := gb120) (o := .cells #[.bool ((Go.bits .and .u8 (rd l0 0) 32) != 0), .bool ((Go.bits .and .u8 (rd l0 0) 16) != 0), .bool ((Go.bits .and .u8 (rd l0 1) 128) != 0), .int .i64 (wrap64 (Go.bits .and .u8 (rd l0 1) 127)), .int .u16 (Go.bits .or .u16 (IntKind.u16.wrap ((IntKind.u16.wrap (rd l0 2)) * 256)) (IntKind.u16.wrap (rd l0 3))), .int .u32 t118, .int .u32 t119, u121007] 43 (0, 0)) (pk BK120) hg (Kd.R_ne HO_121007.out BK120.out (by decide)))
          replace HB := Aside0.mk (hb)
          have HO124 := Aside0.mk (ho)
          clear HO_121007
          clear ho hb hg hat
          obtain ⟨Ao34, co34, eo34⟩ := Kd.R_slice HO124.out
          (first | subst eo34 | (injection eo34 with f1_ f2_ f3_; have f4_ := f1_.symm; have f5_ := f3_.symm; clear f1_ f2_ f3_; subst f4_; subst f5_))
          refine hK.out _ _ ⟨(blk_cell BK120.out 0).trans rfl, (blk_cell BK120.out 1).trans rfl, (blk_cell BK120.out 2).trans rfl, (blk_cell BK120.out 3).trans rfl, (blk_cell BK120.out 4).trans rfl, (blk_cell BK120.out 5).trans rfl, (blk_cell BK120.out 6).trans rfl, (blk_cell BK120.out 7).trans rfl⟩ (fun hHeld => ?_)
          clear hK K
          refine norm_ (a' := ?_) ?_ ?_
          rotate_left
          ·show Act.put _ (some 80) _ = _
           simp only [Act.put, List.setIfInBounds_toArray, List.set_cons_zero, List.set_cons_succ, i64_w, i32_w]
           rfl
          refine pure_ (i := 9) (N := some 81) (v := ?_) (a' := ?_) #[true, true, true, true, true, true, true, true, true, true, false] rfl rfl (any_of HT_.out (by kernel_rfl)) (fun _ _ _ h => h) (Or.inl ⟨by rfl, ?_⟩) ?_ ?_
          rotate_left
          ·intro w'
           go_simp
           with_reducible rfl
          rotate_left
          ·simp only [Act.put, List.setIfInBounds_toArray, List.set_cons_zero, List.set_cons_succ, i64_w, i32_w]
           rfl
          refine last_ (i := 10) (N := none) #[true, true, true, true, true, true, true, true, true, true, true] rfl rfl (one_of HT_.out (by kernel_rfl)) (by decide) (fun K hK => ?_)
          have hs35 : w33.cell? ⟨gb120, 7, none⟩ = some (u121007) := (blk_cell BK120.out 7).trans rfl
          have hfs35 := blk_frozen BK120.out 7
          have hns35_0 := NB109_120.out
          have hms35_0 := NB120_109.out
          refine skip_ (w1 := ?_) (by rfl) rfl ?_ ?_
          rotate_left
          ·go_simp
           rfl
          refine hK.out _ _ ?_
          clear hK K
          refine done_ (done_of HT_.out (by kernel_rfl)) ?_
          try go_wp2
          go_roundg k1
          case measure => have := HK1.out; omega
          case rel => exact ⟨(wrap64 (x8_1 + 1)), (y122), (.slice Ao34 y122.length co34), (by first | rfl | (simp; done) | (simp [*]; done)), H', ⟨by have := HK1.out; omega⟩, ⟨by (with_reducible repeat (first | apply Kd.R_alloc | apply Kd.R_drewN | apply Kd.R_drew)); exact Kd.R_mono (Kd.R_far (p := ⟨gb120, 7, none⟩) (Kd.R_types HO124.out BK120.out (by decide)) (fun _ hk => hk.2) (.slice Ao34 y122.length co34)) (fun _ hk => trivial)⟩, ⟨by (with_reducible repeat (first | refine blk_drewN ?_ _ | refine blk_drew ?_ | refine blk_alloc ?_ _)); refine blk_far ?_ NB109_120.out _; (with_reducible repeat (first | refine blk_drewN ?_ _ | refine blk_drew ?_ | refine blk_alloc ?_ _)); exact BK109.out⟩, ⟨by (with_reducible repeat (first | refine blk_drewN ?_ _ | refine blk_drew ?_ | refine blk_alloc ?_ _)); refine blk_put (cs := #[.bool ((Go.bits .and .u8 (rd l0 0) 32) != 0), .bool ((Go.bits .and .u8 (rd l0 0) 16) != 0), .bool ((Go.bits .and .u8 (rd l0 1) 128) != 0), .int .i64 (wrap64 (Go.bits .and .u8 (rd l0 1) 127)), .int .u16 (Go.bits .or .u16 (IntKind.u16.wrap ((IntKind.u16.wrap (rd l0 2)) * 256)) (IntKind.u16.wrap (rd l0 3))), .int .u32 t118, .int .u32 t119, u121007]) ?_ 7 _ rfl; (with_reducible repeat (first | refine blk_drewN ?_ _ | refine blk_drew ?_ | refine blk_alloc ?_ _)); exact BK120.out⟩, ⟨by repeat (first | (with_reducible first | exact HB.out | apply below_alloc | apply pw_below_drewN | apply below_drew1 | refine below_set ?_ GE109.out | refine below_set ?_ GE120.out) | exact HB.out)⟩⟩
         rw [if_neg c31] at H
         exact absurd H (by simp)
        rw [if_neg c29] at H
        have c29b0 : decide (x8_1 < (wrap64 (Go.bits .and .u8 (rd l0 0) 15))) = false := decide_eq_false c29
        clear c29
        simp only [Option.some.injEq, Prod.mk.injEq] at H
        obtain ⟨rfl, rfl, rfl, rfl, rfl, rfl, rfl, rfl, rfl, rfl⟩ := H
        have hnb36 := NB120_109.out
        have hnc36 := NB109_120.out
        obtain ⟨Z37_0, Z37_1, Z37_2, Z37_3, Z37_4, Z37_5, Z37_6, Z37_7, Y37_0, Y37_1, Y37_2, Y37_3, Y37_4, Y37_5, Y37_6, Y37_7⟩ := bc8 BK120.out
        obtain ⟨Z38_0, Z38_1, Z38_2, Z38_3, Z38_4, Z38_5, Z38_6, Z38_7, Y38_0, Y38_1, Y38_2, Y38_3, Y38_4, Y38_5, Y38_6, Y38_7⟩ := bc8 BK109.out
        obtain ⟨Ao39, co39, eo39⟩ := Kd.R_slice HO_121007.out
        subst eo39
        go_wp2_with (first | ((with_reducible refine gate_store (t := 43) (p := 2) rfl ?_); refine store_event (t := 43) (p := 2) (v := ?vo_w40) (w1 := ((((((((wr.setCell ⟨gb109, 0, none⟩ (.bool ((Go.bits .and .u8 (rd l0 0) 32) != 0))).setCell ⟨gb109, 1, none⟩ (.bool ((Go.bits .and .u8 (rd l0 0) 16) != 0))).setCell ⟨gb109, 2, none⟩ (.bool ((Go.bits .and .u8 (rd l0 1) 128) != 0))).setCell ⟨gb109, 3, none⟩ (.int .i64 (wrap64 (Go.bits .and .u8 (rd l0 1) 127)))).setCell ⟨gb109, 4, none⟩ (.int .u16 (Go.bits .or .u16 (IntKind.u16.wrap ((IntKind.u16.wrap (rd l0 2)) * 256)) (IntKind.u16.wrap (rd l0 3))))).setCell ⟨gb109, 5, none⟩ (.int .u32 t118)).setCell ⟨gb109, 6, none⟩ (.int .u32 t119)).setCell ⟨gb109, 7, none⟩ (.slice Ao39 x121007_1.length co39))) ?hg ?ho ?hn ?hr ?_; (case ho => rfl); (case hg => rfl); (case hn => rfl); (case hr => first | (go_simp; done) | (go_simp; rfl)); intro w40 hw; replace HO_121007 := rfE hw HO_121007 BK109; replace BK109 : Aside0 (w40.heap[gb109]? = some (.cells #[.bool ((Go.bits .and .u8 (rd l0 0) 32) != 0), .bool ((Go.bits .and .u8 (rd l0 0) 16) != 0), .bool ((Go.bits .and .u8 (rd l0 1) 128) != 0), .int .i64 (wrap64 (Go.bits .and .u8 (rd l0 1) 127)), .int .u16 (Go.bits .or .u16 (IntKind.u16.wrap ((IntKind.u16.wrap (rd l0 2)) * 256)) (IntKind.u16.wrap (rd l0 3))), .int .u32 t118, .int .u32 t119, .slice Ao39 x121007_1.length co39] 43 (0, 0))) := ⟨by rw [hw]; apply puts8; exact BK109.out⟩; replace BK120 := bfE hw BK120 NB120_109; replace HB := bsE hw HB GE109; clear hw))
        refine bodyPost_ret (results_ctt rfl _ _ gb109 43 #[.bool ((Go.bits .and .u8 (rd l0 0) 32) != 0), .bool ((Go.bits .and .u8 (rd l0 0) 16) != 0), .bool ((Go.bits .and .u8 (rd l0 1) 128) != 0), .int .i64 (wrap64 (Go.bits .and .u8 (rd l0 1) 127)), .int .u16 (Go.bits .or .u16 (IntKind.u16.wrap ((IntKind.u16.wrap (rd l0 2)) * 256)) (IntKind.u16.wrap (rd l0 3))), .int .u32 t118, .int .u32 t119, .slice Ao39 x121007_1.length co39] (0, 0) _ rfl (pk BK109) Try.underlying43 rfl (by kernel_rfl)) rfl ?_
        exact ⟨_, by first | rfl | (simp [errW_none, errW_some] <;> rfl) | (simp [*, errW_none, errW_some] <;> rfl), by (with_reducible repeat (first | apply Kd.R_alloc | apply Kd.R_drewN | apply Kd.R_drew)); exact HO_121007.out, by repeat (first | (with_reducible first | exact HB.out | apply below_alloc | apply pw_below_drewN | apply below_drew1 | refine below_set ?_ GE109.out | refine below_set ?_ GE120.out) | exact HB.out)⟩
     rw [if_neg c14] at H
     exact absurd H (by simp)
    rw [if_neg c13] at H
    exact absurd H (by simp)
   rw [if_neg c12] at H
   exact absurd H (by simp)
  rw [if_neg c7] at H
  have c7b0 : (((rd l0 0) / 64) == 2) = false := beq_eq_false_iff_ne.mpr c7
  have c7b1 : (((rd l0 0) / 64) != 2) = true := bne_iff_ne.mpr c7
  simp only [Option.some.injEq, Prod.mk.injEq] at H
  obtain ⟨rfl, rfl, rfl, rfl, rfl, rfl, rfl, rfl, rfl, rfl⟩ := H
  go_enter Try.func47, Try.ntmps47
  go_wp2_with (first | ((with_reducible refine gate_dst (N := 2) rfl ?_); refine box_event ?hg (N := 2) ?hd (cs := #[.bool false, .bool false, .bool false, .int .i64 0, .int .u16 0, .int .u32 0, .int .u32 0, .slice none 0 0]) (t := 43) ?hr ?_; (case hd => rfl); (case hg => rfl); (case hr => first | (go_simp; done) | (go_simp; rfl)); intro gb109 hg w41 hbox hb; have n0_ := bstE HB hb; have BK109 := Aside0.mk (hbox); have GW109 := geE hg HB; have GE109 := geE hg HB; clear HB; have HB := n0_; clear n0_; clear hb hbox hg; have p110 : 0 ≤ (0 : Int) := (by omega); have q110 : 0 < (l0.length : Int) := of_decide_eq_true (by first | (with_reducible assumption) | assumption); obtain ⟨ad110, e110, hx110_0⟩ := Kd.at_int HR0.out 0 p110 q110; cases e110; have qi110 : (0 < l0.length) = True := eq_true (by omega); (try rw [show ((0 : Int)).toNat = 0 from rfl] at hx110_0); (try rw [Addr.add_zero'] at hx110_0); replace hx110_0 := (HB.out.cell (World.block_lt_of_cell? w _ hx110_0)).trans hx110_0; replace p110 := eq_true p110; replace q110 := eq_true q110; obtain ⟨Z42_0, Z42_1, Z42_2, Z42_3, Z42_4, Z42_5, Z42_6, Z42_7, Y42_0, Y42_1, Y42_2, Y42_3, Y42_4, Y42_5, Y42_6, Y42_7⟩ := bc8 BK109.out) | ((with_reducible refine gate_store (t := 43) (p := 2) rfl ?_); refine store_event (t := 43) (p := 2) (v := ?vo_w43) (w1 := ((((((((w41.setCell ⟨gb109, 0, none⟩ (.bool false)).setCell ⟨gb109, 1, none⟩ (.bool false)).setCell ⟨gb109, 2, none⟩ (.bool false)).setCell ⟨gb109, 3, none⟩ (.int .i64 0)).setCell ⟨gb109, 4, none⟩ (.int .u16 0)).setCell ⟨gb109, 5, none⟩ (.int .u32 0)).setCell ⟨gb109, 6, none⟩ (.int .u32 0)).setCell ⟨gb109, 7, none⟩ (.slice none 0 0))) ?hg ?ho ?hn ?hr ?_; (case ho => rfl); (case hg => rfl); (case hn => rfl); (case hr => first | (go_simp; done) | (go_simp; rfl)); intro w43 hw; replace BK109 : Aside0 (w43.heap[gb109]? = some (.cells #[.bool false, .bool false, .bool false, .int .i64 0, .int .u16 0, .int .u32 0, .int .u32 0, .slice none 0 0] 43 (0, 0))) := ⟨by rw [hw]; apply puts8; exact BK109.out⟩; replace HB := bsE hw HB GE109; clear hw))
  refine bodyPost_ret (results_ctt rfl _ _ gb109 43 #[.bool false, .bool false, .bool false, .int .i64 0, .int .u16 0, .int .u32 0, .int .u32 0, .slice none 0 0] (0, 0) _ rfl (pk BK109) Try.underlying43 rfl (by kernel_rfl)) rfl ?_
  exact ⟨_, by first | rfl | (simp [errW_none, errW_some] <;> rfl) | (simp [*, errW_none, errW_some] <;> rfl), by first | exact Kd.R_nil _ _ _ _ _ | exact Kd.N_nil _ _ _ _ _ | exact Kd.V_nil _ _ _ _ _ | exact Kd.Q_nil _ _ _ _ _ | exact Kd.S_nil _ _ _ _ _, by repeat (first | (with_reducible first | exact HB.out | apply below_alloc | apply pw_below_drewN | apply below_drew1 | refine below_set ?_ GE109.out) | exact HB.out)⟩
 rw [if_neg c6] at H
 exact absurd H (by simp)
mutual
def octet_Join.l0 : Nat → List (List Int) → Int → List (List Int) → Int → Int → Option (List Int)
 | 0, _, _, _, _, _ => none
 | k + 1, x0, x3, x9, x10, x11 => if x11 < x10 then (if 0 ≤ x11 then (if x11 < (x9.length : Int) then (octet_Join.l0 k x0 (wrap64 (x3 + ((rd_L2 x9 x11).length : Int))) x9 x10 (wrap64 (x11 + 1))) else (none)) else (none)) else (if 0 ≤ x3 then (if (x3 : Int).toNat ≤ 281474976710656 then (octet_Join.l1 k (([] : List Int)) x0 (x0.length : Int) 0) else (none)) else (none))
def octet_Join.l1 : Nat → List Int → List (List Int) → Int → Int → Option (List Int)
 | 0, _, _, _, _ => none
 | k + 1, x6, x22, x23, x24 => if x24 < x23 then (if 0 ≤ x24 then (if x24 < (x22.length : Int) then (if x6.length + (rd_L2 x22 x24).length < 140737488355328 then (octet_Join.l1 k (x6 ++ (rd_L2 x22 x24)) x22 x23 (wrap64 (x24 + 1))) else (none)) else (none)) else (none)) else (some x6)
end
def octet_Join.f (k : Nat) (l0 : List (List Int)) : Option (List Int) := octet_Join.l0 k l0 0 l0 (l0.length : Int) 0
theorem octet_Join.mono_l : ∀ k, (∀ y0 y1 y2 y3 y4, LeO (octet_Join.l0 k y0 y1 y2 y3 y4) (octet_Join.l0 (k + 1) y0 y1 y2 y3 y4)) ∧ (∀ y0 y1 y2 y3, LeO (octet_Join.l1 k y0 y1 y2 y3) (octet_Join.l1 (k + 1) y0 y1 y2 y3))
 | 0 => ⟨fun _ _ _ _ _ r h => by simp [octet_Join.l0] at h, fun _ _ _ _ r h => by simp [octet_Join.l1] at h⟩
 | k + 1 => by
  obtain ⟨ih0, ih1⟩ := octet_Join.mono_l k
  refine ⟨?_, ?_⟩
  ·intro y0 y1 y2 y3 y4
   unfold octet_Join.l0
   repeat' first
   | (with_reducible exact ih0 _ _ _ _ _)
   | (with_reducible exact ih1 _ _ _ _)
   | (with_reducible exact LeO.refl _)
   | (with_reducible exact LeO.none _)
   | (with_reducible refine LeO.ite ?_ ?_)
   | (with_reducible refine LeO.bind ?_ (fun _ => ?_))
   | exact ih0 _ _ _ _ _
   | exact ih1 _ _ _ _
   | exact LeO.none _
   | refine LeO.ite ?_ ?_
   | refine LeO.bind ?_ (fun _ => ?_)
  intro y0 y1 y2 y3
  unfold octet_Join.l1
  repeat' first
  | (with_reducible exact ih0 _ _ _ _ _)
  | (with_reducible exact ih1 _ _ _ _)
  | (with_reducible exact LeO.refl _)
  | (with_reducible exact LeO.none _)
  | (with_reducible refine LeO.ite ?_ ?_)
  | (with_reducible refine LeO.bind ?_ (fun _ => ?_))
  | exact ih0 _ _ _ _ _
  | exact ih1 _ _ _ _
  | exact LeO.none _
  | refine LeO.ite ?_ ?_
  | refine LeO.bind ?_ (fun _ => ?_)
theorem octet_Join.mono : ∀ a0 k, LeO (octet_Join.f k a0) (octet_Join.f (k + 1) a0) := by
 intro a0 k
 obtain ⟨ih0, ih1⟩ := octet_Join.mono_l k
 unfold octet_Join.f
 repeat' first
   | (with_reducible exact ih0 _ _ _ _ _)
   | (with_reducible exact ih1 _ _ _ _)
   | (with_reducible exact LeO.refl _)
   | (with_reducible exact LeO.none _)
   | (with_reducible refine LeO.ite ?_ ?_)
   | (with_reducible refine LeO.bind ?_ (fun _ => ?_))
   | exact ih0 _ _ _ _ _
   | exact ih1 _ _ _ _
   | exact LeO.none _
   | refine LeO.ite ?_ ?_
   | refine LeO.bind ?_ (fun _ => ?_)
set_option maxHeartbeats 8000000 in
set_option maxRecDepth 100000 in
theorem octet_Join.calls (k : Nat) (A0 : Option Addr) (c0 : Nat) (l0 : List (List Int)) (r : List Int) (w : World) (hr0 : Kd.C (Kd.slice 5 (Kd.int .u8)) w A0 l0.length l0) (hc0 : l0.length ≤ c0) (h : octet_Join.f k l0 = some r) :
  Calls Try.prog 37 #[.slice A0 l0.length c0] w fun e w' => ∃ v0_ : Value, e = .returned (v0_) ∧ Kd.R (Kd.int .u8) 5 w' w.heap.size (fun _ => True) v0_ r ∧ Below w.heap.size w w' := by
 have HR0 := Aside0.mk hr0
 have HC0 := Aside0.mk hc0
 clear hr0 hc0
 have HB := Aside0.mk (Below.refl w.heap.size w)
 have H : (octet_Join.l0 k l0 0 l0 (l0.length : Int) 0) = some r := h
 clear h
 have H' := Aside0.mk H
 clear H
 go_enter Try.func37, Try.ntmps37
 go_wp2
 go_loopg [3, 11] k (fun kq v3 v11 w' => ∃ (x3_1 : Int) (x11_1 : Int), v3 = .int .i64 x3_1 ∧ v11 = .int .i64 x11_1 ∧ Aside0 (octet_Join.l0 kq l0 x3_1 l0 (l0.length : Int) x11_1 = some r) ∧ Aside0 (kq ≤ k) ∧ Aside0 (Below w.heap.size w w'))
 case atStart => exact ⟨(0), (0), (by first | rfl | (simp; done) | (simp [*]; done)), (by first | rfl | (simp; done) | (simp [*]; done)), H', ⟨Nat.le_refl _⟩, ⟨by repeat (first | (with_reducible first | exact HB.out | apply below_alloc | apply pw_below_drewN | apply below_drew1) | exact HB.out)⟩⟩
 case round =>
  clear H'
  obtain ⟨x3_1, x11_1, rfl, rfl, HA, HK1, HB⟩ := hrel
  cases gk with
  | zero => exact absurd HA.out (by simp [octet_Join.l0])
  | succ k1 =>
   have H := HA.out
   clear HA
   simp only [octet_Join.l0] at H
   by_cases c2 : x11_1 < (l0.length : Int)
   ·rw [if_pos c2] at H
    have c2b0 : decide (x11_1 < (l0.length : Int)) = true := decide_eq_true c2
    clear c2
    by_cases c3 : 0 ≤ x11_1
    ·rw [if_pos c3] at H
     have c3b0 : decide (0 ≤ x11_1) = true := decide_eq_true c3
     clear c3
     by_cases c4 : x11_1 < (l0.length : Int)
     ·rw [if_pos c4] at H
      have c4b0 : decide (x11_1 < (l0.length : Int)) = true := decide_eq_true c4
      clear c4
      have H' := Aside0.mk H
      clear H
      have p125 : 0 ≤ (x11_1 : Int) := of_decide_eq_true (by first | (with_reducible assumption) | assumption)
      have q125 : x11_1 < (l0.length : Int) := of_decide_eq_true (by first | (with_reducible assumption) | assumption)
      obtain ⟨ad125, A125_0, c125_0, e125, hx125_0, hl125_0, hi125_0⟩ := at_L2 HR0.out x11_1 p125 q125
      cases e125
      replace hx125_0 := (HB.out.cell (World.block_lt_of_cell? w _ hx125_0)).trans hx125_0
      have HR125_0 := Aside0.mk hi125_0
      have HC125_0 := Aside0.mk hl125_0
      clear hi125_0 hl125_0
      replace p125 := eq_true p125
      replace q125 := eq_true q125
      go_wp2
      go_roundg k1
      case measure => have := HK1.out; omega
      case rel => exact ⟨(wrap64 (x3_1 + ((rd_L2 l0 x11_1).length : Int))), (wrap64 (x11_1 + 1)), (by first | rfl | (simp; done) | (simp [*]; done)), (by first | rfl | (simp; done) | (simp [*]; done)), H', ⟨by have := HK1.out; omega⟩, ⟨by repeat (first | (with_reducible first | exact HB.out | apply below_alloc | apply pw_below_drewN | apply below_drew1) | exact HB.out)⟩⟩
     rw [if_neg c4] at H
     exact absurd H (by simp)
    rw [if_neg c3] at H
    exact absurd H (by simp)
   rw [if_neg c2] at H
   have c2b0 : decide (x11_1 < (l0.length : Int)) = false := decide_eq_false c2
   clear c2
   by_cases c5 : 0 ≤ x3_1
   ·rw [if_pos c5] at H
    have c5b0 := eq_true c5
    have c5b1 : decide (0 ≤ x3_1) = true := decide_eq_true c5
    clear c5
    by_cases c6 : (x3_1 : Int).toNat ≤ 281474976710656
    ·rw [if_pos c6] at H
     have c6b0 := eq_true c6
     have c6b1 : decide ((x3_1 : Int).toNat ≤ 281474976710656) = true := decide_eq_true c6
     clear c6
     obtain ⟨y126, hy126⟩ : ∃ y_ : List Int, y_ = (([] : List Int)) := ⟨_, rfl⟩
     replace H : (octet_Join.l1 k1 y126 l0 (l0.length : Int) 0) = some r := by first | (rw [hy126]; with_reducible exact H) | (have H2_ := (Option.bind_some _ _).symm.trans H; rw [hy126]; with_reducible exact H2_) | (have H2_ := (Option.bind_some _ _).symm.trans H; with_reducible exact H2_) | with_reducible exact H | (rw [hy126]; exact H) | exact H
     have Ny126 := Aside0.mk hy126
     clear hy126
     have H' := Aside0.mk H
     clear H
     go_wp2_with (first | ((with_reducible refine gate_dst (N := 21) rfl ?_); refine Kd.R_makecap (Kd.int .u8) _ 5 rfl (N := 21) rfl 22 _ _ rfl x3_1 rfl rfl Try.underlying22 (.int .u8 0) 1 info5 (by omega) (ok := fun _ => True) trivial (oT (by first | (with_reducible assumption) | assumption)) (Nat.le_trans (Nat.mul_le_mul_right _ (of_decide_eq_true (by first | (with_reducible assumption) | assumption) : x3_1.toNat ≤ 281474976710656)) (by omega)) (Below.refl _ _) (Nat.le_refl _) ?_; intro v127 w7 ho8 hb hg_ hnew_; clear hg_ hnew_; (first | rw [← Ny126.out] at ho8 | (simp only [Int.reduceToNat] at ho8; rw [← Ny126.out] at ho8)); have HO128 := Aside0.mk (Kd.R_lower ho8 (below_size (pB HB))); replace HB := bstE HB hb; clear hb ho8))
     go_loopg [6, 24] k1 (fun kq v6 v24 w' => ∃ (x6_2 : List Int) (x24_2 : Int), v24 = .int .i64 x24_2 ∧ Aside0 (octet_Join.l1 kq x6_2 l0 (l0.length : Int) x24_2 = some r) ∧ Aside0 (kq ≤ k1) ∧ Aside0 (Kd.R (Kd.int .u8) 5 w' w.heap.size (fun _ => True) v6 x6_2) ∧ Aside0 (Below w.heap.size w w'))
     case atStart => exact ⟨(y126), (0), (by first | rfl | (simp; done) | (simp [*]; done)), H', ⟨Nat.le_refl _⟩, ⟨by (with_reducible repeat (first | apply Kd.R_alloc | apply Kd.R_drewN | apply Kd.R_drew)); exact HO128.out⟩, ⟨by repeat (first | (with_reducible first | exact HB.out | apply below_alloc | apply pw_below_drewN | apply below_drew1) | exact HB.out)⟩⟩
     case round =>
      clear H'
      try clear c1
      try clear p1
      try clear q1
      try clear hx1
      try clear c2
      try clear c2b0
      try clear p2
      try clear c3
      try clear c3b0
      try clear c4
      try clear c4b0
      try clear c5
      try clear c5b0
      try clear c5b1
      try clear c6
      try clear c6b0
      try clear c6b1
      try clear p6
      try clear hx125_0
      try clear p125
      try clear q125
      obtain ⟨x6_2, x24_2, rfl, HA, HK2, HO_6, HB⟩ := hrel
      cases gk with
      | zero => exact absurd HA.out (by simp [octet_Join.l1])
      | succ k2 =>
       have H := HA.out
       clear HA
       simp only [octet_Join.l1] at H
       by_cases c9 : x24_2 < (l0.length : Int)
       ·rw [if_pos c9] at H
        have c9b0 : decide (x24_2 < (l0.length : Int)) = true := decide_eq_true c9
        clear c9
        by_cases c10 : 0 ≤ x24_2
        ·rw [if_pos c10] at H
         have c10b0 : decide (0 ≤ x24_2) = true := decide_eq_true c10
         clear c10
         by_cases c11 : x24_2 < (l0.length : Int)
         ·rw [if_pos c11] at H
          have c11b0 : decide (x24_2 < (l0.length : Int)) = true := decide_eq_true c11
          clear c11
          by_cases c12 : x6_2.length + (rd_L2 l0 x24_2).length < 140737488355328
          ·rw [if_pos c12] at H
           have LMc12 := Aside0.mk c12
           clear c12
           obtain ⟨y130, hy130⟩ : ∃ y_ : List Int, y_ = (x6_2 ++ (rd_L2 l0 x24_2)) := ⟨_, rfl⟩
           replace H : (octet_Join.l1 k2 y130 l0 (l0.length : Int) (wrap64 (x24_2 + 1))) = some r := by first | (rw [hy130]; with_reducible exact H) | (have H2_ := (Option.bind_some _ _).symm.trans H; rw [hy130]; with_reducible exact H2_) | (have H2_ := (Option.bind_some _ _).symm.trans H; with_reducible exact H2_) | with_reducible exact H | (rw [hy130]; exact H) | exact H
           have Ny130 := Aside0.mk hy130
           clear hy130
           have H' := Aside0.mk H
           clear H
           have p129 : 0 ≤ (x24_2 : Int) := of_decide_eq_true (by first | (with_reducible assumption) | assumption)
           have q129 : x24_2 < (l0.length : Int) := of_decide_eq_true (by first | (with_reducible assumption) | assumption)
           obtain ⟨ad129, A129_0, c129_0, e129, hx129_0, hl129_0, hi129_0⟩ := at_L2 HR0.out x24_2 p129 q129
           cases e129
           replace hx129_0 := (HB.out.cell (World.block_lt_of_cell? w _ hx129_0)).trans hx129_0
           have HR129_0 := Aside0.mk hi129_0
           have HC129_0 := Aside0.mk hl129_0
           clear hi129_0 hl129_0
           replace p129 := eq_true p129
           replace q129 := eq_true q129
           go_wp2_with (first | ((with_reducible refine gate_builtin (b := .append) (xs := #[.tmp 28, .tmp 29]) rfl ?_); at_builtin; refine Kd.R_append_rows (Kd.int .u8) (w0 := w) w.heap.size rfl (.tmp 28) (.tmp 29) 22 5 (.int .u8 0) 1 rfl Try.underlying22 info5 rfl (by decide) (by omega) u6 x6_2 (rd_L2 l0 x24_2) _ _ _ (fun _ => True) (fun _ => False) rfl rfl ?aO ?aR (fun _ _ h => h) (fun _ h => h.elim) ?aF ?aB ?aS ?aL ?_; (case aR => exact cbE HR129_0 HB); (case aB => exact (pB HB)); (case aF => exact (fun _ _ => trivial)); (case aO => exact (pR HO_6)); (case aS => exact (below_size (pB HB))); (case aL => have := LMc12.out; omega); intro v131 w13 ho hb hg hat; rw [← Ny130.out] at ho; replace HB := Aside0.mk (hb); have HO132 := Aside0.mk (ho); clear HO_6; clear ho hb hg hat))
           go_roundg k2
           case measure => have := HK1.out; have := HK2.out; omega
           case rel => exact ⟨(y130), (wrap64 (x24_2 + 1)), (by first | rfl | (simp; done) | (simp [*]; done)), H', ⟨by have := HK1.out; have := HK2.out; omega⟩, ⟨by (with_reducible repeat (first | apply Kd.R_alloc | apply Kd.R_drewN | apply Kd.R_drew)); exact HO132.out⟩, ⟨by repeat (first | (with_reducible first | exact HB.out | apply below_alloc | apply pw_below_drewN | apply below_drew1) | exact HB.out)⟩⟩
          rw [if_neg c12] at H
          exact absurd H (by simp)
         rw [if_neg c11] at H
         exact absurd H (by simp)
        rw [if_neg c10] at H
        exact absurd H (by simp)
       rw [if_neg c9] at H
       have c9b0 : decide (x24_2 < (l0.length : Int)) = false := decide_eq_false c9
       clear c9
       obtain rfl := Option.some.inj H
       go_wp2
       go_ret
       exact ⟨_, by first | rfl | (simp [errW_none, errW_some] <;> rfl) | (simp [*, errW_none, errW_some] <;> rfl), by (with_reducible repeat (first | apply Kd.R_alloc | apply Kd.R_drewN | apply Kd.R_drew)); exact HO_6.out, by repeat (first | (with_reducible first | exact HB.out | apply below_alloc | apply pw_below_drewN | apply below_drew1) | exact HB.out)⟩
    rw [if_neg c6] at H
    exact absurd H (by simp)
   rw [if_neg c5] at H
   exact absurd H (by simp)
def packet_part.f (k : Nat) (l0 : List Int) : Option (List Int) := if (l0.length : Int) = 0 then (some ([] : List Int)) else ((octet_Join.f k (([l0] : List (List Int)))).bind fun t136 => (some t136))
theorem packet_part.mono : ∀ a0 k, LeO (packet_part.f k a0) (packet_part.f (k + 1) a0) := by
 intro a0 k
 unfold packet_part.f
 repeat' first
   | (with_reducible exact octet_Join.mono _ _)
   | (with_reducible exact LeO.refl _)
   | (with_reducible exact LeO.none _)
   | (with_reducible refine LeO.ite ?_ ?_)
   | (with_reducible refine LeO.bind ?_ (fun _ => ?_))
   | exact octet_Join.mono _ _
   | exact LeO.none _
   | refine LeO.ite ?_ ?_
   | refine LeO.bind ?_ (fun _ => ?_)
set_option maxHeartbeats 8000000 in
set_option maxRecDepth 100000 in
theorem packet_part.calls (k : Nat) (P0_ : Nat → Prop) (A0 : Option Addr) (c0 : Nat) (l0 : List Int) (r : List Int) (w : World) (hs0 : Kd.V (Kd.int .u8) 5 w w.heap.size (fun k_ => P0_ k_) (.slice A0 l0.length c0) l0) (h : packet_part.f k l0 = some r) :
  Calls Try.prog 48 #[.slice A0 l0.length c0] w fun e w' => ∃ v0_ : Value, e = .returned (v0_) ∧ Kd.R (Kd.int .u8) 5 w' w.heap.size (fun k_ => (w.heap.size ≤ k_)) v0_ r ∧ Below w.heap.size w w' := by
 have HO0 := Aside0.mk (show Kd.V (Kd.int .u8) 5 w w.heap.size (fun k_ => (P0_ k_ ∨ w.heap.size ≤ k_)) (.slice A0 l0.length c0) l0 from Kd.V_mono hs0 (fun k_ hk => .inl hk))
 have HB := Aside0.mk (Below.refl w.heap.size w)
 have H : (if (l0.length : Int) = 0 then (some ([] : List Int)) else ((octet_Join.f k (([l0] : List (List Int)))).bind fun t136 => (some t136))) = some r := h
 clear h
 by_cases c2 : (l0.length : Int) = 0
 ·rw [if_pos c2] at H
  have c2b0 : ((l0.length : Int) == 0) = true := beq_iff_eq.mpr c2
  have c2b1 : ((l0.length : Int) != 0) = false := bne_eq_false_iff_eq.mpr c2
  clear c2
  obtain rfl := Option.some.inj H
  go_enter Try.func48, Try.ntmps48
  go_wp2
  go_ret
  exact ⟨_, by first | rfl | (simp [errW_none, errW_some] <;> rfl) | (simp [*, errW_none, errW_some] <;> rfl), by first | exact Kd.R_nil _ _ _ _ _ | exact Kd.N_nil _ _ _ _ _ | exact Kd.V_nil _ _ _ _ _ | exact Kd.Q_nil _ _ _ _ _ | exact Kd.S_nil _ _ _ _ _, by repeat (first | (with_reducible first | exact HB.out | apply below_alloc | apply pw_below_drewN | apply below_drew1) | exact HB.out)⟩
 rw [if_neg c2] at H
 have c2b0 : ((l0.length : Int) == 0) = false := beq_eq_false_iff_ne.mpr c2
 have c2b1 : ((l0.length : Int) != 0) = true := bne_iff_ne.mpr c2
 have c2b2 : ¬ (l0 = []) := fun h_ => c2 (by rw [h_]; rfl)
 obtain ⟨y133, hy133⟩ : ∃ y_ : List (List Int), y_ = (([l0] : List (List Int))) := ⟨_, rfl⟩
 replace H : ((octet_Join.f k y133).bind fun t136 => (some t136)) = some r := by first | (rw [hy133]; with_reducible exact H) | (have H2_ := (Option.bind_some _ _).symm.trans H; rw [hy133]; with_reducible exact H2_) | (have H2_ := (Option.bind_some _ _).symm.trans H; with_reducible exact H2_) | with_reducible exact H | (rw [hy133]; exact H) | exact H
 have Ny133 := Aside0.mk hy133
 clear hy133
 replace H := Option.bind_eq_some_iff.mp H
 obtain ⟨t136, A30, H⟩ := H
 replace H : (some t136) = some r := H
 have A3 := Aside0.mk A30
 clear A30
 obtain rfl := Option.some.inj H
 go_enter Try.func48, Try.ntmps48
 go_wp2_with (first | ((with_reducible refine gate_dst (N := 7) rfl ?_); refine Kd.N_lit (Kd.slice 5 (Kd.int .u8)) _ 22 ?hg (N' := 7) ?hd (xs := ([l0] : List (List Int))) (inner := [.slice A0 l0.length c0]) (ok := (fun k_ => (P0_ k_ ∨ w.heap.size ≤ k_))) (okp := (fun k_ => (P0_ k_ ∨ w.heap.size ≤ k_))) ?hr ?hp (fun _ hk => hk) ((show ∀ k_, w.heap.size ≤ k_ → (fun k_ => (P0_ k_ ∨ w.heap.size ≤ k_)) k_ from fun k_ hk => (.inr (Nat.le_trans (below_size (pB HB)) hk))) _ (Nat.le_refl _)) (Below.refl _ _) (Nat.le_refl _) (by simp) ?_; (case hd => rfl); (case hg => rfl); (case hr => first | (go_simp; done) | (go_simp; rfl)); (case hp => exact (Reps.one (show Kd.FK (Kd.slice 5 (Kd.int .u8)) _ _ l0 [.slice A0 l0.length c0] from (Kd.FK_slice_mk (Kd.V_reads' (Kd.V_mono (ok' := (fun k_ => (P0_ k_ ∨ w.heap.size ≤ k_))) (HO0.out) (fun k_ hk => hk))).2.1 (Kd.V_F (Kd.V_mono (ok' := (fun k_ => (P0_ k_ ∨ w.heap.size ≤ k_))) (HO0.out) (fun k_ hk => hk))))) (Reps.none _ _))); intro v134 w4 ho5 hb hg_ hnew_; clear hg_ hnew_; (first | rw [← Ny133.out] at ho5 | (simp only [Int.reduceToNat] at ho5; rw [← Ny133.out] at ho5)); replace HO0 := Aside0.mk (Kd.V_elder' (by (with_reducible repeat (first | apply Kd.V_alloc | apply Kd.V_drewN | apply Kd.V_drew)); exact HO0.out) (Kd.N_base ho5) hb); have HO135 := Aside0.mk (Kd.N_lower ho5 (below_size (pB HB))); replace HB := bstE HB hb; clear hb ho5; obtain ⟨Ao6, co6, eo6⟩ := Kd.N_slice HO135.out; subst eo6) | ((with_reducible refine gate_callee (f := 37) rfl ?_); refine goesL_ (some 8) rfl rfl Try.func37 (by kernel_rfl) rfl #[.slice Ao6 y133.length co6] rfl (by (try simp only [List.map_toArray, List.map_cons, List.map_nil]); first | done | rfl | (simp only [List.length_drop, List.length_take]; rfl)) ?_; (with_reducible refine (octet_Join.calls k _ _ y133 t136 _ ?side1 ?side2 A3.out).mono ?_); (case side1 => exact cE (Kd.N_reads' HO135.out).2.2); (case side2 => exact (Kd.N_reads' HO135.out).2.1); rintro e w7 ⟨v137, rfl, ho0, hb⟩; refine ⟨_, rfl, ?_⟩; replace HO0 := Aside0.mk (Kd.V_elder' (by (with_reducible repeat (first | apply Kd.V_alloc | apply Kd.V_drewN | apply Kd.V_drew)); exact HO0.out) (Kd.R_base ho0) hb); replace HO135 := Aside0.mk (Kd.N_elder' (by (with_reducible repeat (first | apply Kd.N_alloc | apply Kd.N_drewN | apply Kd.N_drew)); exact HO135.out) (Kd.R_base ho0) hb); have HO138 := Aside0.mk (Kd.R_lower (Kd.R_newM (M := fun k_ => (w.heap.size ≤ k_)) ho0 (below_size (pB HB)) (fun k_ h_ => h_)) (below_size (pB HB))); replace HB := bstE HB hb; (try clear hb); (try clear hb2); (try clear hk); (try clear hi); (try clear ho0)))
 go_ret
 exact ⟨_, by first | rfl | (simp [errW_none, errW_some] <;> rfl) | (simp [*, errW_none, errW_some] <;> rfl), by (with_reducible repeat (first | apply Kd.R_alloc | apply Kd.R_drewN | apply Kd.R_drew)); exact Kd.R_mono HO138.out (fun _ hk => hk.1), by repeat (first | (with_reducible first | exact HB.out | apply below_alloc | apply pw_below_drewN | apply below_drew1) | exact HB.out)⟩
def pad_Trail.f (l0 : List Int) : Option (Int × Int) := if (l0.length : Int) = 0 then (some (0, 5)) else (if 0 ≤ (wrap64 ((l0.length : Int) - 1)) then (if (wrap64 ((l0.length : Int) - 1)) < (l0.length : Int) then (if (wrap64 (rd l0 (wrap64 ((l0.length : Int) - 1)))) < 1 then (some (0, 5)) else (if (wrap64 (rd l0 (wrap64 ((l0.length : Int) - 1)))) > (l0.length : Int) then (some (0, 5)) else (some (wrap64 (rd l0 (wrap64 ((l0.length : Int) - 1))), 0)))) else (none)) else (none))
set_option maxHeartbeats 8000000 in
set_option maxRecDepth 100000 in
theorem pad_Trail.calls (A0 : Option Addr) (c0 : Nat) (l0 : List Int) (r1 : Int) (r2 : Int) (w : World) (hr0 : Kd.C (Kd.int .u8) w A0 l0.length l0) (hc0 : l0.length ≤ c0) (h : pad_Trail.f l0 = some (r1, r2)) :
  Calls Try.prog 49 #[.slice A0 l0.length c0] w fun e w' => e = .returned (.tuple #[.int .i64 r1, .int .i64 r2]) ∧ Drawn0 w w' := by
 have HR0 := Aside0.mk hr0
 have HC0 := Aside0.mk hc0
 clear hr0 hc0
 have H : (if (l0.length : Int) = 0 then (some (0, 5)) else (if 0 ≤ (wrap64 ((l0.length : Int) - 1)) then (if (wrap64 ((l0.length : Int) - 1)) < (l0.length : Int) then (if (wrap64 (rd l0 (wrap64 ((l0.length : Int) - 1)))) < 1 then (some (0, 5)) else (if (wrap64 (rd l0 (wrap64 ((l0.length : Int) - 1)))) > (l0.length : Int) then (some (0, 5)) else (some (wrap64 (rd l0 (wrap64 ((l0.length : Int) - 1))), 0)))) else (none)) else (none))) = some (r1, r2) := h
 clear h
 by_cases c2 : (l0.length : Int) = 0
 ·rw [if_pos c2] at H
  have c2b0 : ((l0.length : Int) == 0) = true := beq_iff_eq.mpr c2
  have c2b1 : ((l0.length : Int) != 0) = false := bne_eq_false_iff_eq.mpr c2
  clear c2
  simp only [Option.some.injEq, Prod.mk.injEq] at H
  obtain ⟨rfl, rfl⟩ := H
  go_enter Try.func49, Try.ntmps49
  go_wp2
  go_ret2
  exact ⟨by first | rfl | (simp; done) | (simp [*]; done), by repeat (first | exact Drawn0.refl _ | apply Drawn0.step)⟩
 rw [if_neg c2] at H
 have c2b0 : ((l0.length : Int) == 0) = false := beq_eq_false_iff_ne.mpr c2
 have c2b1 : ((l0.length : Int) != 0) = true := bne_iff_ne.mpr c2
 have c2b2 : ¬ (l0 = []) := fun h_ => c2 (by rw [h_]; rfl)
 obtain ⟨ji3, hji3⟩ : ∃ j_ : Int, (wrap64 ((l0.length : Int) - 1)) = j_ := ⟨_, rfl⟩
 replace H : (if 0 ≤ (ji3) then (if (ji3) < (l0.length : Int) then (if (wrap64 (rd l0 (ji3))) < 1 then (some (0, 5)) else (if (wrap64 (rd l0 (ji3))) > (l0.length : Int) then (some (0, 5)) else (some (wrap64 (rd l0 (ji3)), 0)))) else (none)) else (none)) = some (r1, r2) := by first | (rw [hji3] at H; exact H) | (simp only [hji3] at H ⊢; exact H)
 have hji3w : (IntKind.i64.wrap ((l0.length : Int) - 1)) = ji3 := (i64_w _).trans hji3
 by_cases c4 : 0 ≤ (ji3)
 ·rw [if_pos c4] at H
  have c4b0 : decide (0 ≤ (ji3)) = true := decide_eq_true c4
  clear c4
  by_cases c5 : (ji3) < (l0.length : Int)
  ·rw [if_pos c5] at H
   have c5b0 : decide ((ji3) < (l0.length : Int)) = true := decide_eq_true c5
   clear c5
   by_cases c6 : (wrap64 (rd l0 (ji3))) < 1
   ·rw [if_pos c6] at H
    have c6b0 : decide ((wrap64 (rd l0 (ji3))) < 1) = true := decide_eq_true c6
    clear c6
    simp only [Option.some.injEq, Prod.mk.injEq] at H
    obtain ⟨rfl, rfl⟩ := H
    have p139 : 0 ≤ ((ji3) : Int) := of_decide_eq_true (by first | (with_reducible assumption) | assumption)
    have q139 : (ji3) < (l0.length : Int) := of_decide_eq_true (by first | (with_reducible assumption) | assumption)
    obtain ⟨ad139, e139, hx139_0⟩ := Kd.at_int HR0.out (ji3) p139 q139
    cases e139
    replace p139 := eq_true p139
    replace q139 := eq_true q139
    go_enter Try.func49, Try.ntmps49
    go_wp2
    go_ret2
    exact ⟨by first | rfl | (simp; done) | (simp only [← hji3] <;> (first | rfl | simp)) | (simp [*]; done), by repeat (first | exact Drawn0.refl _ | apply Drawn0.step)⟩
   rw [if_neg c6] at H
   have c6b0 : decide ((wrap64 (rd l0 (ji3))) < 1) = false := decide_eq_false c6
   clear c6
   by_cases c7 : (wrap64 (rd l0 (ji3))) > (l0.length : Int)
   ·rw [if_pos c7] at H
    have c7b0 : decide ((l0.length : Int) < (wrap64 (rd l0 (ji3)))) = true := decide_eq_true c7
    clear c7
    simp only [Option.some.injEq, Prod.mk.injEq] at H
    obtain ⟨rfl, rfl⟩ := H
    have p139 : 0 ≤ ((ji3) : Int) := of_decide_eq_true (by first | (with_reducible assumption) | assumption)
    have q139 : (ji3) < (l0.length : Int) := of_decide_eq_true (by first | (with_reducible assumption) | assumption)
    obtain ⟨ad139, e139, hx139_0⟩ := Kd.at_int HR0.out (ji3) p139 q139
    cases e139
    replace p139 := eq_true p139
    replace q139 := eq_true q139
    go_enter Try.func49, Try.ntmps49
    go_wp2
    go_ret2
    exact ⟨by first | rfl | (simp; done) | (simp only [← hji3] <;> (first | rfl | simp)) | (simp [*]; done), by repeat (first | exact Drawn0.refl _ | apply Drawn0.step)⟩
   rw [if_neg c7] at H
   have c7b0 : decide ((l0.length : Int) < (wrap64 (rd l0 (ji3)))) = false := decide_eq_false c7
   clear c7
   simp only [Option.some.injEq, Prod.mk.injEq] at H
   obtain ⟨rfl, rfl⟩ := H
   have p139 : 0 ≤ ((ji3) : Int) := of_decide_eq_true (by first | (with_reducible assumption) | assumption)
   have q139 : (ji3) < (l0.length : Int) := of_decide_eq_true (by first | (with_reducible assumption) | assumption)
   obtain ⟨ad139, e139, hx139_0⟩ := Kd.at_int HR0.out (ji3) p139 q139
   cases e139
   replace p139 := eq_true p139
   replace q139 := eq_true q139
   go_enter Try.func49, Try.ntmps49
   go_wp2
   go_ret2
   exact ⟨by first | rfl | (simp; done) | (simp only [← hji3] <;> (first | rfl | simp)) | (simp [*]; done), by repeat (first | exact Drawn0.refl _ | apply Drawn0.step)⟩
  rw [if_neg c5] at H
  exact absurd H (by simp)
 rw [if_neg c4] at H
 exact absurd H (by simp)
end Go.Proofs.Ytcbdgknfkoodoaa.F
