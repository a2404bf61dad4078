/- The walks of the program's functions and the plain proofs for this claim, merged by a program; each theorem says what it says, no conditions beyond those stated. -/
import Derived.Test.YtcbdgknfkoodoaaKD0
import Derived.Test.YtcbdgknfkoodoaaKD2
namespace Go.Proofs.Ytcbdgknfkoodoaa.F
open Go.RowKit Go.Proofs.YtcbdgknfkoodoaaW.PrintWords Go.Proofs.YtcbdgknfkoodoaaW.PrintLast Go.Proofs.YtcbdgknfkoodoaaW.PrintMore
attribute [local go_sem] max2_int min2_int max_two min_two max_three min_three max_four min_four   
set_option linter.unusedVariables false
set_option linter.unusedSimpArgs false
def packet_open.j0 : Nat → List Int → Bool → Bool → Bool → Int → Int → Int → Int → List Int → Bool → Bool → Bool → Int → Int → Int → Int → List Int → Int → List Int → Int → Option (Bool × Bool × Bool × Int × Int × Int × Int × List Int × Int × List Int × List Int × Int × List Int × Int)
 | 0, _, _, _, _, _, _, _, _, _, _, _, _, _, _, _, _, _, _, _, _ => none
 | k + 1, x9, x154000, x154001, x154002, x154003, x154004, x154005, x154006, x154007, x155000, x155001, x155002, x155003, x155004, x155005, x155006, x155007, x155008, x155009, x155011 => if x154000 = true then ((pad_Trail.f x9).bind fun bt182 => (if bt182.2 = 0 then (if 0 ≤ (wrap64 ((x9.length : Int) - bt182.1)) then (if (wrap64 ((x9.length : Int) - bt182.1)) ≤ (x9.length : Int) then ((packet_part.f k (x9.take ((wrap64 ((x9.length : Int) - bt182.1)) : Int).toNat)).bind fun t189 => (some (x155000, x155001, x155002, x155003, x155004, x155005, x155006, x155007, x155008, x155009, t189, bt182.1, (x9.drop ((wrap64 ((x9.length : Int) - bt182.1)) : Int).toNat), 0))) else (none)) else (none)) else (some (false, false, false, 0, 0, 0, 0, ([] : List Int), 0, ([] : List Int), ([] : List Int), 0, ([] : List Int), 5)))) else (if 0 ≤ (wrap64 ((x9.length : Int) - x155011)) then (if (wrap64 ((x9.length : Int) - x155011)) ≤ (x9.length : Int) then ((packet_part.f k (x9.take ((wrap64 ((x9.length : Int) - x155011)) : Int).toNat)).bind fun t202 => (some (x155000, x155001, x155002, x155003, x155004, x155005, x155006, x155007, x155008, x155009, t202, x155011, (x9.drop ((wrap64 ((x9.length : Int) - x155011)) : Int).toNat), 0))) else (none)) else (none))
def packet_open.f (k : Nat) (l0 : List Int) : Option (Bool × Bool × Bool × Int × Int × Int × Int × List Int × Int × List Int × List Int × Int × List Int × Int) := if (l0.length : Int) > 65535 then (some (false, false, false, 0, 0, 0, 0, ([] : List Int), 0, ([] : List Int), ([] : List Int), 0, ([] : List Int), 4)) else ((head_Read.f k l0).bind fun bt141 => (if bt141.2.2.2.2.2.2.2.2.2 = 0 then (if 0 ≤ bt141.2.2.2.2.2.2.2.2.1 then (if bt141.2.2.2.2.2.2.2.2.1 ≤ (l0.length : Int) then ((some (l0.drop (bt141.2.2.2.2.2.2.2.2.1 : Int).toNat : List Int)).bind fun y155 => (if bt141.2.1 = true then (if (y155.length : Int) < 4 then (some (false, false, false, 0, 0, 0, 0, ([] : List Int), 0, ([] : List Int), ([] : List Int), 0, ([] : List Int), 2)) else (if 0 < (y155.length : Int) then (if 1 < (y155.length : Int) then (if 2 < (y155.length : Int) then (if 3 < (y155.length : Int) then (if 4 ≤ (y155.length : Int) then ((some (y155.drop 4 : List Int)).bind fun y164 => (if (y164.length : Int) < (wrap64 (4 * (Go.bits .or .i64 (wrap64 ((wrap64 (rd y155 2)) * 256)) (wrap64 (rd y155 3))))) then (some (false, false, false, 0, 0, 0, 0, ([] : List Int), 0, ([] : List Int), ([] : List Int), 0, ([] : List Int), 2)) else (if 0 ≤ (wrap64 (4 * (Go.bits .or .i64 (wrap64 ((wrap64 (rd y155 2)) * 256)) (wrap64 (rd y155 3))))) then (if (wrap64 (4 * (Go.bits .or .i64 (wrap64 ((wrap64 (rd y155 2)) * 256)) (wrap64 (rd y155 3))))) ≤ (y164.length : Int) then ((packet_part.f k (y164.take ((wrap64 (4 * (Go.bits .or .i64 (wrap64 ((wrap64 (rd y155 2)) * 256)) (wrap64 (rd y155 3))))) : Int).toNat)).bind fun t174 => (packet_open.j0 k (y164.drop ((wrap64 (4 * (Go.bits .or .i64 (wrap64 ((wrap64 (rd y155 2)) * 256)) (wrap64 (rd y155 3))))) : Int).toNat) bt141.1 bt141.2.1 bt141.2.2.1 bt141.2.2.2.1 bt141.2.2.2.2.1 bt141.2.2.2.2.2.1 bt141.2.2.2.2.2.2.1 bt141.2.2.2.2.2.2.2.1 bt141.1 bt141.2.1 bt141.2.2.1 bt141.2.2.2.1 bt141.2.2.2.2.1 bt141.2.2.2.2.2.1 bt141.2.2.2.2.2.2.1 bt141.2.2.2.2.2.2.2.1 (Go.bits .or .u16 (IntKind.u16.wrap ((IntKind.u16.wrap (rd y155 0)) * 256)) (IntKind.u16.wrap (rd y155 1))) t174 0)) else (none)) else (none)))) else (none)) else (none)) else (none)) else (none)) else (none))) else (packet_open.j0 k y155 bt141.1 bt141.2.1 bt141.2.2.1 bt141.2.2.2.1 bt141.2.2.2.2.1 bt141.2.2.2.2.2.1 bt141.2.2.2.2.2.2.1 bt141.2.2.2.2.2.2.2.1 bt141.1 bt141.2.1 bt141.2.2.1 bt141.2.2.2.1 bt141.2.2.2.2.1 bt141.2.2.2.2.2.1 bt141.2.2.2.2.2.2.1 bt141.2.2.2.2.2.2.2.1 0 ([] : List Int) 0))) else (none)) else (none)) else (some (false, false, false, 0, 0, 0, 0, ([] : List Int), 0, ([] : List Int), ([] : List Int), 0, ([] : List Int), bt141.2.2.2.2.2.2.2.2.2))))
theorem packet_open.mono_l : ∀ k, (∀ y0 y1 y2 y3 y4 y5 y6 y7 y8 y9 y10 y11 y12 y13 y14 y15 y16 y17 y18 y19, LeO (packet_open.j0 k y0 y1 y2 y3 y4 y5 y6 y7 y8 y9 y10 y11 y12 y13 y14 y15 y16 y17 y18 y19) (packet_open.j0 (k + 1) y0 y1 y2 y3 y4 y5 y6 y7 y8 y9 y10 y11 y12 y13 y14 y15 y16 y17 y18 y19))
 | 0 => fun _ _ _ _ _ _ _ _ _ _ _ _ _ _ _ _ _ _ _ _ r h => by simp [packet_open.j0] at h
 | k + 1 => by
  have ih0 := packet_open.mono_l k
  intro y0 y1 y2 y3 y4 y5 y6 y7 y8 y9 y10 y11 y12 y13 y14 y15 y16 y17 y18 y19
  unfold packet_open.j0
  repeat' first
  | (with_reducible exact ih0 _ _ _ _ _ _ _ _ _ _ _ _ _ _ _ _ _ _ _ _)
  | (with_reducible exact head_Read.mono _ _)
  | (with_reducible exact packet_part.mono _ _)
  | (with_reducible exact LeO.refl _)
  | (with_reducible exact LeO.none _)
  | (with_reducible refine LeO.ite ?_ ?_)
  | (with_reducible refine LeO.bind ?_ (fun _ => ?_))
  | exact ih0 _ _ _ _ _ _ _ _ _ _ _ _ _ _ _ _ _ _ _ _
  | exact head_Read.mono _ _
  | exact packet_part.mono _ _
  | exact LeO.none _
  | refine LeO.ite ?_ ?_
  | refine LeO.bind ?_ (fun _ => ?_)
theorem packet_open.mono : ∀ a0 k, LeO (packet_open.f k a0) (packet_open.f (k + 1) a0) := by
 intro a0 k
 have ih0 := packet_open.mono_l k
 unfold packet_open.f
 repeat' first
   | (with_reducible exact ih0 _ _ _ _ _ _ _ _ _ _ _ _ _ _ _ _ _ _ _ _)
   | (with_reducible exact head_Read.mono _ _)
   | (with_reducible exact packet_part.mono _ _)
   | (with_reducible exact LeO.refl _)
   | (with_reducible exact LeO.none _)
   | (with_reducible refine LeO.ite ?_ ?_)
   | (with_reducible refine LeO.bind ?_ (fun _ => ?_))
   | exact ih0 _ _ _ _ _ _ _ _ _ _ _ _ _ _ _ _ _ _ _ _
   | exact head_Read.mono _ _
   | exact packet_part.mono _ _
   | exact LeO.none _
   | refine LeO.ite ?_ ?_
   | refine LeO.bind ?_ (fun _ => ?_)
def packet_open.T11 : Bool × List (List Nat × List Nat) := (true, [([], []), ([0], [0]), ([1], [1]), ([2], [2]), ([3], [3]), ([], []), ([5], [5]), ([6], [6]), ([7], [7]), ([4, 8], [4, 8]), ([0, 1, 2, 3, 4, 5, 6, 7, 8, 9], []), ([10, 9, 0, 1, 2, 3, 4, 5, 6, 7, 8, 9], [9, 10])])
def packet_open.B11 : List Nat := [0, 1, 3, 7, 15, 0, 32, 96, 224, 511, 1023, 2047]
theorem packet_open.tab11 : rtab .any (opsOf Try.f32 11) = packet_open.T11 := by kernel_rfl
theorem packet_open.bits11 : waitsOk packet_open.T11.2 packet_open.B11 = true := by kernel_rfl
def packet_open.T12 : Bool × List (List Nat × List Nat) := (true, [([], []), ([0], [0]), ([1], [1]), ([2], [2]), ([3], [3]), ([], []), ([5], [5]), ([6], [6]), ([7], [7]), ([4, 8], [4, 8]), ([9], [9]), ([10, 0, 1, 2, 3, 4, 5, 6, 7, 8, 9, 10], [10])])
def packet_open.B12 : List Nat := [0, 1, 3, 7, 15, 0, 32, 96, 224, 511, 1023, 2047]
theorem packet_open.tab12 : rtab .any (opsOf Try.f32 12) = packet_open.T12 := by kernel_rfl
theorem packet_open.bits12 : waitsOk packet_open.T12.2 packet_open.B12 = true := by kernel_rfl
set_option maxHeartbeats 8000000 in
set_option maxRecDepth 100000 in
theorem packet_open.calls (k : Nat) (P0_ : Nat → Prop) (A0 : Option Addr) (c0 : Nat) (l0 : List Int) (r1 : Bool) (r2 : Bool) (r3 : Bool) (r4 : Int) (r5 : Int) (r6 : Int) (r7 : Int) (r8 : List Int) (r9 : Int) (r10 : List Int) (r11 : List Int) (r12 : Int) (r13 : List Int) (r14 : Int) (w : World) (hs0 : Kd.V (Kd.int .u8) 5 w w.heap.size (fun k_ => P0_ k_) (.slice A0 l0.length c0) l0) (h : packet_open.f k l0 = some (r1, r2, r3, r4, r5, r6, r7, r8, r9, r10, r11, r12, r13, r14)) :
  Calls Try.prog 32 #[.slice A0 l0.length c0] w fun e w' => ∃ v7_ v9_ v10_ v12_ : Value, e = .returned (.tuple #[.agg #[.bool r1, .bool r2, .bool r3, .int .i64 r4, .int .u16 r5, .int .u32 r6, .int .u32 r7, v7_, .int .u16 r9, v9_, v10_, .int .i64 r12], v12_, .int .i64 r14]) ∧ Kd.R (Kd.int .u32) 40 w' w.heap.size (fun k_ => (w.heap.size ≤ k_)) v7_ r8 ∧ Kd.R (Kd.int .u8) 5 w' w.heap.size (fun k_ => (w.heap.size ≤ k_) ∧ some k_ ≠ (v10_ : Value).ownBlock) v9_ r10 ∧ Kd.R (Kd.int .u8) 5 w' w.heap.size (fun k_ => (w.heap.size ≤ k_) ∧ some k_ ≠ (v9_ : Value).ownBlock) v10_ r11 ∧ Kd.V (Kd.int .u8) 5 w' w.heap.size (fun k_ => (P0_ k_ ∨ w.heap.size ≤ k_) ∧ some k_ ≠ (v7_ : Value).ownBlock ∧ some k_ ≠ (v9_ : Value).ownBlock ∧ some k_ ≠ (v10_ : Value).ownBlock) v12_ r13 ∧ Below w.heap.size w w' := by
 have hu45 := Try.underlying45
 have hu43 := Try.underlying43
 have HO0 := Aside0.mk (show Kd.V (Kd.int .u8) 5 w w.heap.size (fun k_ => (P0_ k_ ∨ w.heap.size ≤ k_)) (.slice A0 l0.length c0) l0 from Kd.V_mono hs0 (fun k_ hk => .inl hk))
 have HB := Aside0.mk (Below.refl w.heap.size w)
 have H : (if (l0.length : Int) > 65535 then (some (false, false, false, 0, 0, 0, 0, ([] : List Int), 0, ([] : List Int), ([] : List Int), 0, ([] : List Int), 4)) else ((head_Read.f k l0).bind fun bt141 => (if bt141.2.2.2.2.2.2.2.2.2 = 0 then (if 0 ≤ bt141.2.2.2.2.2.2.2.2.1 then (if bt141.2.2.2.2.2.2.2.2.1 ≤ (l0.length : Int) then ((some (l0.drop (bt141.2.2.2.2.2.2.2.2.1 : Int).toNat : List Int)).bind fun y155 => (if bt141.2.1 = true then (if (y155.length : Int) < 4 then (some (false, false, false, 0, 0, 0, 0, ([] : List Int), 0, ([] : List Int), ([] : List Int), 0, ([] : List Int), 2)) else (if 0 < (y155.length : Int) then (if 1 < (y155.length : Int) then (if 2 < (y155.length : Int) then (if 3 < (y155.length : Int) then (if 4 ≤ (y155.length : Int) then ((some (y155.drop 4 : List Int)).bind fun y164 => (if (y164.length : Int) < (wrap64 (4 * (Go.bits .or .i64 (wrap64 ((wrap64 (rd y155 2)) * 256)) (wrap64 (rd y155 3))))) then (some (false, false, false, 0, 0, 0, 0, ([] : List Int), 0, ([] : List Int), ([] : List Int), 0, ([] : List Int), 2)) else (if 0 ≤ (wrap64 (4 * (Go.bits .or .i64 (wrap64 ((wrap64 (rd y155 2)) * 256)) (wrap64 (rd y155 3))))) then (if (wrap64 (4 * (Go.bits .or .i64 (wrap64 ((wrap64 (rd y155 2)) * 256)) (wrap64 (rd y155 3))))) ≤ (y164.length : Int) then ((packet_part.f k (y164.take ((wrap64 (4 * (Go.bits .or .i64 (wrap64 ((wrap64 (rd y155 2)) * 256)) (wrap64 (rd y155 3))))) : Int).toNat)).bind fun t174 => (packet_open.j0 k (y164.drop ((wrap64 (4 * (Go.bits .or .i64 (wrap64 ((wrap64 (rd y155 2)) * 256)) (wrap64 (rd y155 3))))) : Int).toNat) bt141.1 bt141.2.1 bt141.2.2.1 bt141.2.2.2.1 bt141.2.2.2.2.1 bt141.2.2.2.2.2.1 bt141.2.2.2.2.2.2.1 bt141.2.2.2.2.2.2.2.1 bt141.1 bt141.2.1 bt141.2.2.1 bt141.2.2.2.1 bt141.2.2.2.2.1 bt141.2.2.2.2.2.1 bt141.2.2.2.2.2.2.1 bt141.2.2.2.2.2.2.2.1 (Go.bits .or .u16 (IntKind.u16.wrap ((IntKind.u16.wrap (rd y155 0)) * 256)) (IntKind.u16.wrap (rd y155 1))) t174 0)) else (none)) else (none)))) else (none)) else (none)) else (none)) else (none)) else (none))) else (packet_open.j0 k y155 bt141.1 bt141.2.1 bt141.2.2.1 bt141.2.2.2.1 bt141.2.2.2.2.1 bt141.2.2.2.2.2.1 bt141.2.2.2.2.2.2.1 bt141.2.2.2.2.2.2.2.1 bt141.1 bt141.2.1 bt141.2.2.1 bt141.2.2.2.1 bt141.2.2.2.2.1 bt141.2.2.2.2.2.1 bt141.2.2.2.2.2.2.1 bt141.2.2.2.2.2.2.2.1 0 ([] : List Int) 0))) else (none)) else (none)) else (some (false, false, false, 0, 0, 0, 0, ([] : List Int), 0, ([] : List Int), ([] : List Int), 0, ([] : List Int), bt141.2.2.2.2.2.2.2.2.2))))) = some (r1, r2, r3, r4, r5, r6, r7, r8, r9, r10, r11, r12, r13, r14) := h
 clear h
 by_cases c2 : (l0.length : Int) > 65535
 ·rw [if_pos c2] at H
  have c2b0 : decide (65535 < (l0.length : Int)) = true := decide_eq_true c2
  have c2b1 : decide (65535 < l0.length) = true := decide_eq_true (by omega)
  clear c2
  simp only [Option.some.injEq, Prod.mk.injEq] at H
  obtain ⟨rfl, rfl, rfl, rfl, rfl, rfl, rfl, rfl, rfl, rfl, rfl, rfl, rfl, rfl⟩ := H
  go_enter Try.func32, Try.ntmps32
  go_wp2_with (first | ((with_reducible refine gate_dst (N := 2) rfl ?_); refine box_event ?hg (N := 2) ?hd (cs := #[.bool false, .bool false, .bool false, .int .i64 0, .int .u16 0, .int .u32 0, .int .u32 0, .slice none 0 0, .int .u16 0, .slice none 0 0, .slice none 0 0, .int .i64 0]) (t := 45) ?hr ?_; (case hd => rfl); (case hg => rfl); (case hr => first | (go_simp; done) | (go_simp; rfl)); intro gb140 hg w3 hbox hb; replace HO0 := Aside0.mk (Kd.V_below (Kd.V_elderB (by (with_reducible repeat (first | apply Kd.V_alloc | apply Kd.V_drewN | apply Kd.V_drew)); exact HO0.out) gb140 (Nat.le_of_eq hg.symm)) hb); have n1_ := bstE HB hb; have BK140 := Aside0.mk (hbox); have GW140 := geE hg HB; have GE140 := geE hg HB; clear HB; have HB := n1_; clear n1_; clear hb hbox hg; obtain ⟨Z4_0, Z4_1, Z4_2, Z4_3, Z4_4, Z4_5, Z4_6, Z4_7, Z4_8, Z4_9, Z4_10, Z4_11, Y4_0, Y4_1, Y4_2, Y4_3, Y4_4, Y4_5, Y4_6, Y4_7, Y4_8, Y4_9, Y4_10, Y4_11⟩ := bc12 BK140.out) | ((with_reducible refine gate_store (t := 45) (p := 2) rfl ?_); refine store_event (t := 45) (p := 2) (v := ?vo_w5) (w1 := ((((((((((((w3.setCell ⟨gb140, 0, none⟩ (.bool false)).setCell ⟨gb140, 1, none⟩ (.bool false)).setCell ⟨gb140, 2, none⟩ (.bool false)).setCell ⟨gb140, 3, none⟩ (.int .i64 0)).setCell ⟨gb140, 4, none⟩ (.int .u16 0)).setCell ⟨gb140, 5, none⟩ (.int .u32 0)).setCell ⟨gb140, 6, none⟩ (.int .u32 0)).setCell ⟨gb140, 7, none⟩ (.slice none 0 0)).setCell ⟨gb140, 8, none⟩ (.int .u16 0)).setCell ⟨gb140, 9, none⟩ (.slice none 0 0)).setCell ⟨gb140, 10, none⟩ (.slice none 0 0)).setCell ⟨gb140, 11, none⟩ (.int .i64 0))) ?hg ?ho ?hn ?hr ?_; (case ho => rfl); (case hg => rfl); (case hn => rfl); (case hr => first | (go_simp; done) | (go_simp; rfl)); intro w5 hw; replace HO0 : Aside0 (Kd.V (Kd.int .u8) 5 w5 w.heap.size (fun k_ => (P0_ k_ ∨ w.heap.size ≤ k_) ∧ k_ ≠ gb140) (.slice A0 l0.length c0) l0) := ⟨Kd.V_mono (vfF hw (Kd.V_mono HO0.out (fun k_ hk => (⟨hk, hk.2⟩ : _ ∧ k_ ≠ gb140)))) (fun _ hk => ⟨hk.1.1, hk.1.2⟩)⟩; replace BK140 : Aside0 (w5.heap[gb140]? = some (.cells #[.bool false, .bool false, .bool false, .int .i64 0, .int .u16 0, .int .u32 0, .int .u32 0, .slice none 0 0, .int .u16 0, .slice none 0 0, .slice none 0 0, .int .i64 0] 45 (0, 0))) := ⟨by rw [hw]; apply puts12; exact BK140.out⟩; replace HB := bsE hw HB GE140; clear hw))
  refine bodyPost_ret (results_ctt rfl _ _ gb140 45 #[.bool false, .bool false, .bool false, .int .i64 0, .int .u16 0, .int .u32 0, .int .u32 0, .slice none 0 0, .int .u16 0, .slice none 0 0, .slice none 0 0, .int .i64 0] (0, 0) _ rfl (pk BK140) Try.underlying45 rfl (by kernel_rfl)) rfl ?_
  exact ⟨_, _, _, _, by first | rfl | (simp [errW_none, errW_some] <;> rfl) | (simp [*, errW_none, errW_some] <;> rfl), by first | exact Kd.R_nil _ _ _ _ _ | exact Kd.N_nil _ _ _ _ _ | exact Kd.V_nil _ _ _ _ _ | exact Kd.Q_nil _ _ _ _ _ | exact Kd.S_nil _ _ _ _ _, by first | exact Kd.R_nil _ _ _ _ _ | exact Kd.N_nil _ _ _ _ _ | exact Kd.V_nil _ _ _ _ _ | exact Kd.Q_nil _ _ _ _ _ | exact Kd.S_nil _ _ _ _ _, by first | exact Kd.R_nil _ _ _ _ _ | exact Kd.N_nil _ _ _ _ _ | exact Kd.V_nil _ _ _ _ _ | exact Kd.Q_nil _ _ _ _ _ | exact Kd.S_nil _ _ _ _ _, (by exact Kd.V_nil _ _ _ _ _), by repeat (first | (with_reducible first | exact HB.out | apply below_alloc | apply pw_below_drewN | apply below_drew1 | refine below_set ?_ GE140.out) | exact HB.out)⟩
 rw [if_neg c2] at H
 have c2b0 : decide (65535 < (l0.length : Int)) = false := decide_eq_false c2
 have c2b1 : decide (65535 < l0.length) = false := decide_eq_false (by omega)
 clear c2
 replace H := Option.bind_eq_some_iff.mp H
 obtain ⟨⟨t141, t142, t143, t144, t145, t146, t147, t148, t151, t152⟩, A60, H⟩ := H
 replace H : (if t152 = 0 then (if 0 ≤ t151 then (if t151 ≤ (l0.length : Int) then ((some (l0.drop (t151 : Int).toNat : List Int)).bind fun y155 => (if t142 = true then (if (y155.length : Int) < 4 then (some (false, false, false, 0, 0, 0, 0, ([] : List Int), 0, ([] : List Int), ([] : List Int), 0, ([] : List Int), 2)) else (if 0 < (y155.length : Int) then (if 1 < (y155.length : Int) then (if 2 < (y155.length : Int) then (if 3 < (y155.length : Int) then (if 4 ≤ (y155.length : Int) then ((some (y155.drop 4 : List Int)).bind fun y164 => (if (y164.length : Int) < (wrap64 (4 * (Go.bits .or .i64 (wrap64 ((wrap64 (rd y155 2)) * 256)) (wrap64 (rd y155 3))))) then (some (false, false, false, 0, 0, 0, 0, ([] : List Int), 0, ([] : List Int), ([] : List Int), 0, ([] : List Int), 2)) else (if 0 ≤ (wrap64 (4 * (Go.bits .or .i64 (wrap64 ((wrap64 (rd y155 2)) * 256)) (wrap64 (rd y155 3))))) then (if (wrap64 (4 * (Go.bits .or .i64 (wrap64 ((wrap64 (rd y155 2)) * 256)) (wrap64 (rd y155 3))))) ≤ (y164.length : Int) then ((packet_part.f k (y164.take ((wrap64 (4 * (Go.bits .or .i64 (wrap64 ((wrap64 (rd y155 2)) * 256)) (wrap64 (rd y155 3))))) : Int).toNat)).bind fun t174 => (packet_open.j0 k (y164.drop ((wrap64 (4 * (Go.bits .or .i64 (wrap64 ((wrap64 (rd y155 2)) * 256)) (wrap64 (rd y155 3))))) : Int).toNat) t141 t142 t143 t144 t145 t146 t147 t148 t141 t142 t143 t144 t145 t146 t147 t148 (Go.bits .or .u16 (IntKind.u16.wrap ((IntKind.u16.wrap (rd y155 0)) * 256)) (IntKind.u16.wrap (rd y155 1))) t174 0)) else (none)) else (none)))) else (none)) else (none)) else (none)) else (none)) else (none))) else (packet_open.j0 k y155 t141 t142 t143 t144 t145 t146 t147 t148 t141 t142 t143 t144 t145 t146 t147 t148 0 ([] : List Int) 0))) else (none)) else (none)) else (some (false, false, false, 0, 0, 0, 0, ([] : List Int), 0, ([] : List Int), ([] : List Int), 0, ([] : List Int), t152))) = some (r1, r2, r3, r4, r5, r6, r7, r8, r9, r10, r11, r12, r13, r14) := H
 have A6 := Aside0.mk A60
 clear A60
 by_cases c7 : t152 = 0
 ·rw [if_pos c7] at H
  have c7b0 : (t152 == 0) = true := beq_iff_eq.mpr c7
  have c7b1 : (t152 != 0) = false := bne_eq_false_iff_eq.mpr c7
  clear c7
  by_cases c8 : 0 ≤ t151
  ·rw [if_pos c8] at H
   have c8b0 := eq_true c8
   have c8b1 : decide (0 ≤ t151) = true := decide_eq_true c8
   clear c8
   by_cases c9 : t151 ≤ (l0.length : Int)
   ·rw [if_pos c9] at H
    have c9b0 := eq_true c9
    have c9b1 : decide (t151 ≤ (l0.length : Int)) = true := decide_eq_true c9
    clear c9
    obtain ⟨y155, hy155⟩ : ∃ y_ : List Int, y_ = (l0.drop (t151 : Int).toNat) := ⟨_, rfl⟩
    replace H : (if t142 = true then (if (y155.length : Int) < 4 then (some (false, false, false, 0, 0, 0, 0, ([] : List Int), 0, ([] : List Int), ([] : List Int), 0, ([] : List Int), 2)) else (if 0 < (y155.length : Int) then (if 1 < (y155.length : Int) then (if 2 < (y155.length : Int) then (if 3 < (y155.length : Int) then (if 4 ≤ (y155.length : Int) then ((some (y155.drop 4 : List Int)).bind fun y164 => (if (y164.length : Int) < (wrap64 (4 * (Go.bits .or .i64 (wrap64 ((wrap64 (rd y155 2)) * 256)) (wrap64 (rd y155 3))))) then (some (false, false, false, 0, 0, 0, 0, ([] : List Int), 0, ([] : List Int), ([] : List Int), 0, ([] : List Int), 2)) else (if 0 ≤ (wrap64 (4 * (Go.bits .or .i64 (wrap64 ((wrap64 (rd y155 2)) * 256)) (wrap64 (rd y155 3))))) then (if (wrap64 (4 * (Go.bits .or .i64 (wrap64 ((wrap64 (rd y155 2)) * 256)) (wrap64 (rd y155 3))))) ≤ (y164.length : Int) then ((packet_part.f k (y164.take ((wrap64 (4 * (Go.bits .or .i64 (wrap64 ((wrap64 (rd y155 2)) * 256)) (wrap64 (rd y155 3))))) : Int).toNat)).bind fun t174 => (packet_open.j0 k (y164.drop ((wrap64 (4 * (Go.bits .or .i64 (wrap64 ((wrap64 (rd y155 2)) * 256)) (wrap64 (rd y155 3))))) : Int).toNat) t141 t142 t143 t144 t145 t146 t147 t148 t141 t142 t143 t144 t145 t146 t147 t148 (Go.bits .or .u16 (IntKind.u16.wrap ((IntKind.u16.wrap (rd y155 0)) * 256)) (IntKind.u16.wrap (rd y155 1))) t174 0)) else (none)) else (none)))) else (none)) else (none)) else (none)) else (none)) else (none))) else (packet_open.j0 k y155 t141 t142 t143 t144 t145 t146 t147 t148 t141 t142 t143 t144 t145 t146 t147 t148 0 ([] : List Int) 0)) = some (r1, r2, r3, r4, r5, r6, r7, r8, r9, r10, r11, r12, r13, r14) := by first | (rw [hy155]; with_reducible exact H) | (have H2_ := (Option.bind_some _ _).symm.trans H; rw [hy155]; with_reducible exact H2_) | (have H2_ := (Option.bind_some _ _).symm.trans H; with_reducible exact H2_) | with_reducible exact H | (rw [hy155]; exact H) | exact H
    have Ny155 := Aside0.mk hy155
    clear hy155
    have HC10 := Aside0.mk H
    clear H
    go_enter Try.func32, Try.ntmps32
    go_upto_if 34 with (first | ((with_reducible refine gate_dst (N := 2) rfl ?_); refine box_event ?hg (N := 2) ?hd (cs := #[.bool false, .bool false, .bool false, .int .i64 0, .int .u16 0, .int .u32 0, .int .u32 0, .slice none 0 0, .int .u16 0, .slice none 0 0, .slice none 0 0, .int .i64 0]) (t := 45) ?hr ?_; (case hd => rfl); (case hg => rfl); (case hr => first | (go_simp; done) | (go_simp; rfl)); intro gb140 hg w11 hbox hb; replace HO0 := Aside0.mk (Kd.V_below (Kd.V_elderB (by (with_reducible repeat (first | apply Kd.V_alloc | apply Kd.V_drewN | apply Kd.V_drew)); exact HO0.out) gb140 (Nat.le_of_eq hg.symm)) hb); have n1_ := bstE HB hb; have BK140 := Aside0.mk (hbox); have GW140 := geE hg HB; have GE140 := geE hg HB; clear HB; have HB := n1_; clear n1_; clear hb hbox hg) | ((with_reducible refine gate_callee (f := 47) rfl ?_); refine goesL_ (some 20) rfl rfl Try.func47 (by kernel_rfl) rfl #[.slice A0 l0.length c0] rfl (by (try simp only [List.map_toArray, List.map_cons, List.map_nil]); first | done | rfl | (simp only [List.length_drop, List.length_take]; rfl)) ?_; (with_reducible refine (head_Read.calls k _ _ l0 t141 t142 t143 t144 t145 t146 t147 t148 t151 t152 _ ?side1 ?side2 A6.out).mono ?_); (case side1 => exact cE (Kd.V_reads' HO0.out).2.2); (case side2 => exact (Kd.V_reads' HO0.out).2.1); rintro e w12 ⟨v149, rfl, ho0, hb⟩; refine ⟨_, rfl, ?_⟩; replace HO0 := Aside0.mk (Kd.V_elder' (by (with_reducible repeat (first | apply Kd.V_alloc | apply Kd.V_drewN | apply Kd.V_drew)); exact HO0.out) (Kd.R_base ho0) hb); have HO150 := Aside0.mk (Kd.R_lower (Kd.R_newM (M := fun k_ => (w.heap.size ≤ k_)) ho0 (below_size (pB HB)) (fun k_ h_ => h_)) (below_size (pB HB))); replace BK140 := bbE BK140 hb; replace HB := bstE HB hb; (try clear hb); (try clear hb2); (try clear hk); (try clear hi); (try clear ho0)) | ((with_reducible refine gate_dst (N := 5) rfl ?_); refine box_event ?hg (N := 5) ?hd (cs := #[.bool false, .bool false, .bool false, .int .i64 0, .int .u16 0, .int .u32 0, .int .u32 0, .slice none 0 0]) (t := 43) ?hr ?_; (case hd => rfl); (case hg => rfl); (case hr => first | (go_simp; done) | (go_simp; rfl)); intro gb153 hg w13 hbox hb; replace HO0 := Aside0.mk (Kd.V_below (Kd.V_elderB (by (with_reducible repeat (first | apply Kd.V_alloc | apply Kd.V_drewN | apply Kd.V_drew)); exact HO0.out) gb153 (Nat.le_of_eq hg.symm)) hb); replace HO150 := rbE HO150 hb; have n2_ := bbE BK140 hb; have n3_ := bstE HB hb; have BK153 := Aside0.mk (hbox); have GW153 := geE hg HB; have GE153 := geE hg HB; have NB140_153 := nlE hg BK140; have NB153_140 := ngE hg BK140; clear BK140; clear HB; have BK140 := n2_; have HB := n3_; clear n2_ n3_; clear hb hbox hg; have hnb14 := NB153_140.out; have hnc14 := NB140_153.out; obtain ⟨Z15_0, Z15_1, Z15_2, Z15_3, Z15_4, Z15_5, Z15_6, Z15_7, Y15_0, Y15_1, Y15_2, Y15_3, Y15_4, Y15_5, Y15_6, Y15_7⟩ := bc8 BK153.out; obtain ⟨Ao16, co16, eo16⟩ := Kd.R_slice HO150.out; subst eo16) | ((with_reducible refine gate_store (t := 43) (p := 5) rfl ?_); refine store_event (t := 43) (p := 5) (v := ?vo_w17) (w1 := ((((((((w13.setCell ⟨gb153, 0, none⟩ (.bool t141)).setCell ⟨gb153, 1, none⟩ (.bool t142)).setCell ⟨gb153, 2, none⟩ (.bool t143)).setCell ⟨gb153, 3, none⟩ (.int .i64 t144)).setCell ⟨gb153, 4, none⟩ (.int .u16 t145)).setCell ⟨gb153, 5, none⟩ (.int .u32 t146)).setCell ⟨gb153, 6, none⟩ (.int .u32 t147)).setCell ⟨gb153, 7, none⟩ (.slice Ao16 t148.length co16))) ?hg ?ho ?hn ?hr ?_; (case ho => rfl); (case hg => rfl); (case hn => rfl); (case hr => first | (go_simp; done) | (go_simp; rfl)); intro w17 hw; replace HO0 : Aside0 (Kd.V (Kd.int .u8) 5 w17 w.heap.size (fun k_ => (P0_ k_ ∨ w.heap.size ≤ k_) ∧ some k_ ≠ (.slice Ao16 t148.length co16 : Value).ownBlock ∧ k_ ≠ gb140 ∧ k_ ≠ gb153) (.slice A0 l0.length c0) l0) := ⟨Kd.V_mono (vfF hw (Kd.V_mono HO0.out (fun k_ hk => (⟨hk, hk.2⟩ : _ ∧ k_ ≠ gb153)))) (fun _ hk => ⟨hk.1.1.1.1, ⟨hk.1.1.2, ⟨hk.1.1.1.2, hk.1.2⟩⟩⟩)⟩; replace HO150 : Aside0 (Kd.R (Kd.int .u32) 40 w17 w.heap.size (fun k_ => (w.heap.size ≤ k_)) (.slice Ao16 t148.length co16) t148) := ⟨Kd.R_mono (rfF hw HO150 BK153) (fun _ hk => hk.1.1)⟩; replace BK140 := bfE hw BK140 NB140_153; replace BK153 : Aside0 (w17.heap[gb153]? = some (.cells #[.bool t141, .bool t142, .bool t143, .int .i64 t144, .int .u16 t145, .int .u32 t146, .int .u32 t147, .slice Ao16 t148.length co16] 43 (0, 0))) := ⟨by rw [hw]; apply puts8; exact BK153.out⟩; replace HB := bsE hw HB GE153; clear hw; obtain ⟨Z18_0, Z18_1, Z18_2, Z18_3, Z18_4, Z18_5, Z18_6, Z18_7, Y18_0, Y18_1, Y18_2, Y18_3, Y18_4, Y18_5, Y18_6, Y18_7⟩ := bc8 BK153.out) | ((with_reducible refine gate_dst (N := 8) rfl ?_); refine box_event ?hg (N := 8) ?hd (cs := #[.bool false, .bool false, .bool false, .int .i64 0, .int .u16 0, .int .u32 0, .int .u32 0, .slice none 0 0, .int .u16 0, .slice none 0 0, .slice none 0 0, .int .i64 0]) (t := 45) ?hr ?_; (case hd => rfl); (case hg => rfl); (case hr => first | (go_simp; done) | (go_simp; rfl)); intro gb154 hg w19 hbox hb; replace HO0 := Aside0.mk (Kd.V_below (Kd.V_elderB (by (with_reducible repeat (first | apply Kd.V_alloc | apply Kd.V_drewN | apply Kd.V_drew)); exact HO0.out) gb154 (Nat.le_of_eq hg.symm)) hb); replace HO150 := rbE HO150 hb; have n2_ := bbE BK140 hb; have n3_ := bbE BK153 hb; have n4_ := bstE HB hb; have BK154 := Aside0.mk (hbox); have GW154 := geE hg HB; have GE154 := geE hg HB; have NB140_154 := nlE hg BK140; have NB154_140 := ngE hg BK140; have NB153_154 := nlE hg BK153; have NB154_153 := ngE hg BK153; clear BK140; clear BK153; clear HB; have BK140 := n2_; have BK153 := n3_; have HB := n4_; clear n2_ n3_ n4_; clear hb hbox hg; have hnb20 := NB154_140.out; have hnc20 := NB140_154.out; have hnb21 := NB154_153.out; have hnc21 := NB153_154.out; obtain ⟨Z22_0, Z22_1, Z22_2, Z22_3, Z22_4, Z22_5, Z22_6, Z22_7, Z22_8, Z22_9, Z22_10, Z22_11, Y22_0, Y22_1, Y22_2, Y22_3, Y22_4, Y22_5, Y22_6, Y22_7, Y22_8, Y22_9, Y22_10, Y22_11⟩ := bc12 BK154.out) | ((with_reducible refine gate_store (t := 45) (p := 8) rfl ?_); refine store_event (t := 45) (p := 8) (v := ?vo_w23) (w1 := ((((((((((((w19.setCell ⟨gb154, 0, none⟩ (.bool t141)).setCell ⟨gb154, 1, none⟩ (.bool t142)).setCell ⟨gb154, 2, none⟩ (.bool t143)).setCell ⟨gb154, 3, none⟩ (.int .i64 t144)).setCell ⟨gb154, 4, none⟩ (.int .u16 t145)).setCell ⟨gb154, 5, none⟩ (.int .u32 t146)).setCell ⟨gb154, 6, none⟩ (.int .u32 t147)).setCell ⟨gb154, 7, none⟩ (.slice Ao16 t148.length co16)).setCell ⟨gb154, 8, none⟩ (.int .u16 0)).setCell ⟨gb154, 9, none⟩ (.slice none 0 0)).setCell ⟨gb154, 10, none⟩ (.slice none 0 0)).setCell ⟨gb154, 11, none⟩ (.int .i64 0))) ?hg ?ho ?hn ?hr ?_; (case ho => rfl); (case hg => rfl); (case hn => rfl); (case hr => first | (go_simp; done) | (go_simp; rfl)); intro w23 hw; replace HO0 : Aside0 (Kd.V (Kd.int .u8) 5 w23 w.heap.size (fun k_ => (P0_ k_ ∨ w.heap.size ≤ k_) ∧ some k_ ≠ (.slice Ao16 t148.length co16 : Value).ownBlock ∧ k_ ≠ gb140 ∧ k_ ≠ gb153 ∧ k_ ≠ gb154) (.slice A0 l0.length c0) l0) := ⟨Kd.V_mono (vfF hw (Kd.V_mono HO0.out (fun k_ hk => (⟨hk, hk.2⟩ : _ ∧ k_ ≠ gb154)))) (fun _ hk => ⟨hk.1.1.1, ⟨hk.1.1.2.1, ⟨hk.1.1.2.2.1, ⟨hk.1.1.2.2.2, hk.1.2⟩⟩⟩⟩)⟩; replace HO150 := rfE hw HO150 BK154; replace BK140 := bfE hw BK140 NB140_154; replace BK153 := bfE hw BK153 NB153_154; replace BK154 : Aside0 (w23.heap[gb154]? = some (.cells #[.bool t141, .bool t142, .bool t143, .int .i64 t144, .int .u16 t145, .int .u32 t146, .int .u32 t147, .slice Ao16 t148.length co16, .int .u16 0, .slice none 0 0, .slice none 0 0, .int .i64 0] 45 (0, 0))) := ⟨by rw [hw]; apply puts12; exact BK154.out⟩; replace HB := bsE hw HB GE154; clear hw; have q24 : (t151 : Int) ≤ ((l0.length : Int) : Int) := of_decide_eq_true (by first | (with_reducible assumption) | assumption); obtain ⟨i024, hi024, _, hsz24, _⟩ := info_parts info5; have hroom24 : l0.length ≤ c0 := (Kd.V_reads' HO0.out).2.1; have hC24 : Kd.F (Kd.int .u8) _ _ A0 l0.length l0 := (Kd.V_at (base := w.heap.size) HO0.out).2.2; have q024 : (0 : Int) ≤ (t151 : Int) := of_decide_eq_true (by first | (with_reducible assumption) | assumption); have hcut24 := cut_from (P := Try.prog) 22 5 .i64 Try.underlying22 hi024 1 hsz24 A0 l0.length c0 t151 q024 q24; have hr24 := Kd.F_cut (m := (t151 : Int).toNat) (c := c0) hC24 (by omega) hroom24; obtain ⟨A24, hA24⟩ : ∃ A1, A1 = (if c0 = (t151 : Int).toNat then A0 else (A0 : Option Addr).map (·.add ((t151 : Int).toNat * 1))) := ⟨_, rfl⟩; obtain ⟨c24, hc24⟩ : ∃ c1, c1 = c0 - (t151 : Int).toNat := ⟨_, rfl⟩; have hy24 : y155.length = l0.length - (t151 : Int).toNat := (by rw [Ny155.out, List.length_drop] <;> omega); rw [show (l0).drop (t151 : Int).toNat = y155 from Ny155.out.symm] at hr24; replace hr24 : Kd.F (Kd.int .u8) _ _ A24 y155.length y155 := (by rw [hA24]; exact hr24); rw [← hy24, ← hA24, ← hc24] at hcut24; have HO159 := Aside0.mk (show Kd.V (Kd.int .u8) 5 _ w.heap.size _ (.slice A24 y155.length c24) y155 from Kd.V_mk (by rw [hy24, hc24]; exact Nat.sub_le_sub_right hroom24 _) hr24); have HC159 := Aside0.mk (show y155.length ≤ c24 from by rw [hy24, hc24]; exact Nat.sub_le_sub_right hroom24 _); clear hr24 hC24 hroom24 hi024 hsz24 hc24; have KY24 := Aside0.mk hy24; have KA24 := Aside0.mk hA24; clear hy24 hA24; replace q24 := eq_true q24; obtain ⟨Z25_0, Z25_1, Z25_2, Z25_3, Z25_4, Z25_5, Z25_6, Z25_7, Y25_0, Y25_1, Y25_2, Y25_3, Y25_4, Y25_5, Y25_6, Y25_7⟩ := bc8 BK153.out))
    (try simp only [Act.put, List.setIfInBounds_toArray, List.set_cons_zero, List.set_cons_succ])
    go_cut [9] (fun v9 wc => ∃ (kq : Nat) (x9_9 : List Int) (x141000_9 : Bool) (x141001_9 : Bool) (x141002_9 : Bool) (x141003_9 : Int) (x141004_9 : Int) (x141005_9 : Int) (x141006_9 : Int) (x141008_9 : Int) (x141011_9 : Int) (x155008_9 : Int) (x155009_9 : List Int) (u155009 : Value), Aside0 (packet_open.j0 kq x9_9 t141 t142 t143 t144 t145 t146 t147 t148 t141 t142 t143 t144 t145 t146 t147 t148 x155008_9 x155009_9 0 = some (r1, r2, r3, r4, r5, r6, r7, r8, r9, r10, r11, r12, r13, r14)) ∧ Aside0 (kq ≤ k) ∧ Aside0 (Kd.V (Kd.int .u8) 5 wc w.heap.size (fun k_ => (P0_ k_ ∨ w.heap.size ≤ k_) ∧ some k_ ≠ ((.slice Ao16 t148.length co16) : Value).ownBlock ∧ some k_ ≠ ((.slice Ao16 t148.length co16) : Value).ownBlock ∧ some k_ ≠ (u155009 : Value).ownBlock ∧ k_ ≠ gb140 ∧ k_ ≠ gb153 ∧ k_ ≠ gb154) v9 x9_9) ∧ Aside0 (Kd.R (Kd.int .u32) 40 wc w.heap.size (fun k_ => (w.heap.size ≤ k_)) (.slice Ao16 t148.length co16) t148) ∧ Aside0 (Kd.R (Kd.int .u32) 40 wc w.heap.size (fun k_ => (w.heap.size ≤ k_)) (.slice Ao16 t148.length co16) t148) ∧ Aside0 (Kd.R (Kd.int .u8) 5 wc w.heap.size (fun k_ => (w.heap.size ≤ k_)) u155009 x155009_9) ∧ Aside0 (wc.heap[gb140]? = some (.cells #[.bool x141000_9, .bool x141001_9, .bool x141002_9, .int .i64 x141003_9, .int .u16 x141004_9, .int .u32 x141005_9, .int .u32 x141006_9, (.slice none 0 0), .int .u16 x141008_9, (.slice none 0 0), (.slice none 0 0), .int .i64 x141011_9] 45 (0, 0))) ∧ Aside0 (wc.heap[gb153]? = some (.cells #[.bool t141, .bool t142, .bool t143, .int .i64 t144, .int .u16 t145, .int .u32 t146, .int .u32 t147, (.slice Ao16 t148.length co16)] 43 (0, 0))) ∧ Aside0 (wc.heap[gb154]? = some (.cells #[.bool t141, .bool t142, .bool t143, .int .i64 t144, .int .u16 t145, .int .u32 t146, .int .u32 t147, (.slice Ao16 t148.length co16), .int .u16 x155008_9, u155009, (.slice none 0 0), .int .i64 0] 45 (0, 0))) ∧ Aside0 (Below w.heap.size w wc))
    case first =>
     have H := HC10.out
     clear HC10
     by_cases c26 : t142 = true
     ·subst c26
      have H1 : (if (y155.length : Int) < 4 then (some (false, false, false, 0, 0, 0, 0, ([] : List Int), 0, ([] : List Int), ([] : List Int), 0, ([] : List Int), 2)) else (if 0 < (y155.length : Int) then (if 1 < (y155.length : Int) then (if 2 < (y155.length : Int) then (if 3 < (y155.length : Int) then (if 4 ≤ (y155.length : Int) then ((some (y155.drop 4 : List Int)).bind fun y164 => (if (y164.length : Int) < (wrap64 (4 * (Go.bits .or .i64 (wrap64 ((wrap64 (rd y155 2)) * 256)) (wrap64 (rd y155 3))))) then (some (false, false, false, 0, 0, 0, 0, ([] : List Int), 0, ([] : List Int), ([] : List Int), 0, ([] : List Int), 2)) else (if 0 ≤ (wrap64 (4 * (Go.bits .or .i64 (wrap64 ((wrap64 (rd y155 2)) * 256)) (wrap64 (rd y155 3))))) then (if (wrap64 (4 * (Go.bits .or .i64 (wrap64 ((wrap64 (rd y155 2)) * 256)) (wrap64 (rd y155 3))))) ≤ (y164.length : Int) then ((packet_part.f k (y164.take ((wrap64 (4 * (Go.bits .or .i64 (wrap64 ((wrap64 (rd y155 2)) * 256)) (wrap64 (rd y155 3))))) : Int).toNat)).bind fun t174 => (packet_open.j0 k (y164.drop ((wrap64 (4 * (Go.bits .or .i64 (wrap64 ((wrap64 (rd y155 2)) * 256)) (wrap64 (rd y155 3))))) : Int).toNat) t141 true t143 t144 t145 t146 t147 t148 t141 true t143 t144 t145 t146 t147 t148 (Go.bits .or .u16 (IntKind.u16.wrap ((IntKind.u16.wrap (rd y155 0)) * 256)) (IntKind.u16.wrap (rd y155 1))) t174 0)) else (none)) else (none)))) else (none)) else (none)) else (none)) else (none)) else (none))) = some (r1, r2, r3, r4, r5, r6, r7, r8, r9, r10, r11, r12, r13, r14) := by rw [if_pos rfl] at H; exact H
      clear H
      have H := H1
      clear H1
      by_cases c27 : (y155.length : Int) < 4
      ·rw [if_pos c27] at H
       have c27b0 : decide ((y155.length : Int) < 4) = true := decide_eq_true c27
       have c27b1 : decide (y155.length < 4) = true := decide_eq_true (by omega)
       clear c27
       (first | rw [c27b0] | (simp only [i64_w, i32_w]; rw [c27b0]) | rw [c27b1] | skip)
       simp only [Option.some.injEq, Prod.mk.injEq] at H
       obtain ⟨rfl, rfl, rfl, rfl, rfl, rfl, rfl, rfl, rfl, rfl, rfl, rfl, rfl, rfl⟩ := H
       have hnb28 := NB140_153.out
       have hnc28 := NB153_140.out
       have hnb29 := NB140_154.out
       have hnc29 := NB154_140.out
       obtain ⟨Z30_0, Z30_1, Z30_2, Z30_3, Z30_4, Z30_5, Z30_6, Z30_7, Z30_8, Z30_9, Z30_10, Z30_11, Y30_0, Y30_1, Y30_2, Y30_3, Y30_4, Y30_5, Y30_6, Y30_7, Y30_8, Y30_9, Y30_10, Y30_11⟩ := bc12 BK140.out
       go_wp2_with (first | ((with_reducible refine gate_store (t := 45) (p := 2) rfl ?_); refine store_event (t := 45) (p := 2) (v := ?vo_w31) (w1 := ((((((((((((w23.setCell ⟨gb140, 0, none⟩ (.bool false)).setCell ⟨gb140, 1, none⟩ (.bool false)).setCell ⟨gb140, 2, none⟩ (.bool false)).setCell ⟨gb140, 3, none⟩ (.int .i64 0)).setCell ⟨gb140, 4, none⟩ (.int .u16 0)).setCell ⟨gb140, 5, none⟩ (.int .u32 0)).setCell ⟨gb140, 6, none⟩ (.int .u32 0)).setCell ⟨gb140, 7, none⟩ (.slice none 0 0)).setCell ⟨gb140, 8, none⟩ (.int .u16 0)).setCell ⟨gb140, 9, none⟩ (.slice none 0 0)).setCell ⟨gb140, 10, none⟩ (.slice none 0 0)).setCell ⟨gb140, 11, none⟩ (.int .i64 0))) ?hg ?ho ?hn ?hr ?_; (case ho => rfl); (case hg => rfl); (case hn => rfl); (case hr => first | (go_simp; done) | (go_simp; rfl)); intro w31 hw; replace HO0 : Aside0 (Kd.V (Kd.int .u8) 5 w31 w.heap.size (fun k_ => (P0_ k_ ∨ w.heap.size ≤ k_) ∧ some k_ ≠ (.slice Ao16 t148.length co16 : Value).ownBlock ∧ k_ ≠ gb140 ∧ k_ ≠ gb153 ∧ k_ ≠ gb154) (.slice A0 l0.length c0) l0) := ⟨Kd.V_mono (vfF hw (Kd.V_mono HO0.out (fun k_ hk => (⟨hk, hk.2.2.1⟩ : _ ∧ k_ ≠ gb140)))) (fun _ hk => ⟨hk.1.1, ⟨hk.1.2.1, ⟨hk.1.2.2.1, ⟨hk.1.2.2.2.1, hk.1.2.2.2.2⟩⟩⟩⟩)⟩; replace HO150 := rfE hw HO150 BK140; replace HO159 : Aside0 (Kd.V (Kd.int .u8) 5 w31 w.heap.size (fun k_ => (P0_ k_ ∨ w.heap.size ≤ k_) ∧ some k_ ≠ (.slice Ao16 t148.length co16 : Value).ownBlock ∧ k_ ≠ gb140 ∧ k_ ≠ gb153 ∧ k_ ≠ gb154) (.slice A24 y155.length c24) y155) := ⟨Kd.V_mono (vfF hw (Kd.V_mono HO159.out (fun k_ hk => (⟨hk, hk.2.2.1⟩ : _ ∧ k_ ≠ gb140)))) (fun _ hk => ⟨hk.1.1, ⟨hk.1.2.1, ⟨hk.1.2.2.1, ⟨hk.1.2.2.2.1, hk.1.2.2.2.2⟩⟩⟩⟩)⟩; replace BK140 : Aside0 (w31.heap[gb140]? = some (.cells #[.bool false, .bool false, .bool false, .int .i64 0, .int .u16 0, .int .u32 0, .int .u32 0, .slice none 0 0, .int .u16 0, .slice none 0 0, .slice none 0 0, .int .i64 0] 45 (0, 0))) := ⟨by rw [hw]; apply puts12; exact BK140.out⟩; replace BK153 := bfE hw BK153 NB153_140; replace BK154 := bfE hw BK154 NB154_140; replace HB := bsE hw HB GE140; clear hw))
       refine bodyPost_ret (results_ctt rfl _ _ gb140 45 #[.bool false, .bool false, .bool false, .int .i64 0, .int .u16 0, .int .u32 0, .int .u32 0, .slice none 0 0, .int .u16 0, .slice none 0 0, .slice none 0 0, .int .i64 0] (0, 0) _ rfl (pk BK140) Try.underlying45 rfl (by kernel_rfl)) rfl ?_
       exact ⟨_, _, _, _, by first | rfl | (simp [errW_none, errW_some] <;> rfl) | (simp [*, errW_none, errW_some] <;> rfl), by first | exact Kd.R_nil _ _ _ _ _ | exact Kd.N_nil _ _ _ _ _ | exact Kd.V_nil _ _ _ _ _ | exact Kd.Q_nil _ _ _ _ _ | exact Kd.S_nil _ _ _ _ _, by first | exact Kd.R_nil _ _ _ _ _ | exact Kd.N_nil _ _ _ _ _ | exact Kd.V_nil _ _ _ _ _ | exact Kd.Q_nil _ _ _ _ _ | exact Kd.S_nil _ _ _ _ _, by first | exact Kd.R_nil _ _ _ _ _ | exact Kd.N_nil _ _ _ _ _ | exact Kd.V_nil _ _ _ _ _ | exact Kd.Q_nil _ _ _ _ _ | exact Kd.S_nil _ _ _ _ _, (by exact Kd.V_nil _ _ _ _ _), by repeat (first | (with_reducible first | exact HB.out | apply below_alloc | apply pw_below_drewN | apply below_drew1 | refine below_set ?_ GE140.out | refine below_set ?_ GE153.out | refine below_set ?_ GE154.out) | exact HB.out)⟩
      rw [if_neg c27] at H
      have c27b0 : decide ((y155.length : Int) < 4) = false := decide_eq_false c27
      have c27b1 : decide (y155.length < 4) = false := decide_eq_false (by omega)
      clear c27
      (first | rw [c27b0] | (simp only [i64_w, i32_w]; rw [c27b0]) | rw [c27b1] | skip)
      by_cases c32 : 0 < (y155.length : Int)
      ·rw [if_pos c32] at H
       have c32b0 : decide (0 < (y155.length : Int)) = true := decide_eq_true c32
       have c32b1 : decide (0 < y155.length) = true := decide_eq_true (by omega)
       clear c32
       by_cases c33 : 1 < (y155.length : Int)
       ·rw [if_pos c33] at H
        have c33b0 : decide (1 < (y155.length : Int)) = true := decide_eq_true c33
        have c33b1 : decide (1 < y155.length) = true := decide_eq_true (by omega)
        clear c33
        by_cases c34 : 2 < (y155.length : Int)
        ·rw [if_pos c34] at H
         have c34b0 : decide (2 < (y155.length : Int)) = true := decide_eq_true c34
         have c34b1 : decide (2 < y155.length) = true := decide_eq_true (by omega)
         clear c34
         by_cases c35 : 3 < (y155.length : Int)
         ·rw [if_pos c35] at H
          have c35b0 : decide (3 < (y155.length : Int)) = true := decide_eq_true c35
          have c35b1 : decide (3 < y155.length) = true := decide_eq_true (by omega)
          clear c35
          by_cases c36 : 4 ≤ (y155.length : Int)
          ·rw [if_pos c36] at H
           have c36b0 := eq_true c36
           have c36b1 : decide (4 ≤ (y155.length : Int)) = true := decide_eq_true c36
           clear c36
           obtain ⟨y164, hy164⟩ : ∃ y_ : List Int, y_ = (y155.drop 4) := ⟨_, rfl⟩
           replace H : (if (y164.length : Int) < (wrap64 (4 * (Go.bits .or .i64 (wrap64 ((wrap64 (rd y155 2)) * 256)) (wrap64 (rd y155 3))))) then (some (false, false, false, 0, 0, 0, 0, ([] : List Int), 0, ([] : List Int), ([] : List Int), 0, ([] : List Int), 2)) else (if 0 ≤ (wrap64 (4 * (Go.bits .or .i64 (wrap64 ((wrap64 (rd y155 2)) * 256)) (wrap64 (rd y155 3))))) then (if (wrap64 (4 * (Go.bits .or .i64 (wrap64 ((wrap64 (rd y155 2)) * 256)) (wrap64 (rd y155 3))))) ≤ (y164.length : Int) then ((packet_part.f k (y164.take ((wrap64 (4 * (Go.bits .or .i64 (wrap64 ((wrap64 (rd y155 2)) * 256)) (wrap64 (rd y155 3))))) : Int).toNat)).bind fun t174 => (packet_open.j0 k (y164.drop ((wrap64 (4 * (Go.bits .or .i64 (wrap64 ((wrap64 (rd y155 2)) * 256)) (wrap64 (rd y155 3))))) : Int).toNat) t141 true t143 t144 t145 t146 t147 t148 t141 true t143 t144 t145 t146 t147 t148 (Go.bits .or .u16 (IntKind.u16.wrap ((IntKind.u16.wrap (rd y155 0)) * 256)) (IntKind.u16.wrap (rd y155 1))) t174 0)) else (none)) else (none))) = some (r1, r2, r3, r4, r5, r6, r7, r8, r9, r10, r11, r12, r13, r14) := by first | (rw [hy164]; with_reducible exact H) | (have H2_ := (Option.bind_some _ _).symm.trans H; rw [hy164]; with_reducible exact H2_) | (have H2_ := (Option.bind_some _ _).symm.trans H; with_reducible exact H2_) | with_reducible exact H | (rw [hy164]; exact H) | exact H
           have Ny164 := Aside0.mk hy164
           clear hy164
           by_cases c37 : (y164.length : Int) < (wrap64 (4 * (Go.bits .or .i64 (wrap64 ((wrap64 (rd y155 2)) * 256)) (wrap64 (rd y155 3)))))
           ·rw [if_pos c37] at H
            have c37b0 : decide ((y164.length : Int) < (wrap64 (4 * (Go.bits .or .i64 (wrap64 ((wrap64 (rd y155 2)) * 256)) (wrap64 (rd y155 3)))))) = true := decide_eq_true c37
            clear c37
            simp only [Option.some.injEq, Prod.mk.injEq] at H
            obtain ⟨rfl, rfl, rfl, rfl, rfl, rfl, rfl, rfl, rfl, rfl, rfl, rfl, rfl, rfl⟩ := H
            try go_wp2
            replace HO0 := Aside0.mk (Kd.V_drew HO0.out)
            replace HO150 := Aside0.mk (Kd.R_drew HO150.out)
            replace HO159 := Aside0.mk (Kd.V_drew HO159.out)
            replace BK140 := Aside0.mk (blk_drew BK140.out)
            replace BK153 := Aside0.mk (blk_drew BK153.out)
            replace BK154 := Aside0.mk (blk_drew BK154.out)
            replace HB := Aside0.mk (below_drew1 HB.out)
            have p160 : 0 ≤ (0 : Int) := (by omega)
            have q160 : 0 < (y155.length : Int) := of_decide_eq_true (by first | (with_reducible assumption) | assumption)
            obtain ⟨ad160, e160, hx160_0⟩ := Kd.at_int (Kd.V_reads' HO159.out).2.2 0 p160 q160
            cases e160
            have qi160 : (0 < y155.length) = True := eq_true (by omega)
            (try rw [show ((0 : Int)).toNat = 0 from rfl] at hx160_0)
            (try rw [Addr.add_zero'] at hx160_0)
            replace p160 := eq_true p160
            replace q160 := eq_true q160
            have p161 : 0 ≤ (1 : Int) := (by omega)
            have q161 : 1 < (y155.length : Int) := of_decide_eq_true (by first | (with_reducible assumption) | assumption)
            obtain ⟨ad161, e161, hx161_0⟩ := Kd.at_int (Kd.V_reads' HO159.out).2.2 1 p161 q161
            obtain rfl : ad160 = ad161 := (by injection e161)
            (try simp only [show (1 : Int).toNat = 1 from rfl, Nat.reduceMul, Nat.reduceEqDiff, Go.Addr.add, ↓reduceIte] at hx161_0)
            have qi161 : (1 < y155.length) = True := eq_true (by omega)
            (try rw [show ((1 : Int)).toNat = 1 from rfl] at hx161_0)
            replace p161 := eq_true p161
            replace q161 := eq_true q161
            refine start_ (n := 12) (S := fun w' => w'.cell? ad160 = some (.int .u8 (rd y155 0)) ∧ w'.cell? ⟨ad160.block, ad160.off + 1, none⟩ = some (.int .u8 (rd y155 1))) (ds := []) #[false, false, false, false, false, false, false, false, false, false, false, false] (by kernel_rfl) rfl rfl ⟨hx160_0, hx161_0⟩ (fun hHeld => ?_); refine with_tabW packet_open.tab11 packet_open.bits11 (fun HT_ HW_ => ?_)
            generalize w23.drew = w38 at HO0 HO150 HO159 BK140 BK153 BK154 HB hx160_0 hx161_0 hHeld ⊢
            refine pure_ (i := 0) (N := some 39) (v := ?_) (a' := ?_) #[true, false, false, false, false, false, false, false, false, false, false, false] rfl rfl (any_of HT_.out (by kernel_rfl)) (fun _ _ _ h => h) (Or.inl ⟨by rfl, ?_⟩) ?_ ?_
            rotate_left
            ·intro w'
             go_simp
             with_reducible rfl
            rotate_left
            ·simp only [Act.put, List.setIfInBounds_toArray, List.set_cons_zero, List.set_cons_succ, i64_w, i32_w]
             rfl
            refine pure_ (i := 1) (N := some 40) (v := ?_) (a' := ?_) #[true, true, false, false, false, false, false, false, false, false, false, false] rfl rfl (any_of HT_.out (by kernel_rfl)) (fun _ _ _ h => h) (Or.inl ⟨by rfl, ?_⟩) ?_ ?_
            rotate_left
            ·intro w'
             go_simp
             with_reducible rfl
            rotate_left
            ·simp only [Act.put, List.setIfInBounds_toArray, List.set_cons_zero, List.set_cons_succ, i64_w, i32_w]
             rfl
            refine pure_ (i := 5) (N := some 44) (v := ?_) (a' := ?_) #[true, true, false, false, false, true, false, false, false, false, false, false] rfl rfl (any_of HT_.out (by kernel_rfl)) (fun _ _ _ h => h) (Or.inl ⟨by rfl, ?_⟩) ?_ ?_
            rotate_left
            ·intro w'
             go_simp
             with_reducible rfl
            rotate_left
            ·simp only [Act.put, List.setIfInBounds_toArray, List.set_cons_zero, List.set_cons_succ, i64_w, i32_w]
             rfl
            refine pure_ (i := 6) (N := some 45) (v := ?_) (a' := ?_) #[true, true, false, false, false, true, true, false, false, false, false, false] rfl rfl (any_of HT_.out (by kernel_rfl)) (fun _ _ _ h => h) (Or.inl ⟨by rfl, ?_⟩) ?_ ?_
            rotate_left
            ·intro w'
             go_simp
             with_reducible rfl
            rotate_left
            ·simp only [Act.put, List.setIfInBounds_toArray, List.set_cons_zero, List.set_cons_succ, i64_w, i32_w]
             rfl
            refine take_ (i := 2) (N := some 41) (v := ?_) (a' := ?_) #[true, true, true, false, false, true, true, false, false, false, false, false] rfl rfl (take_ofW HT_.out HW_.out (by kernel_rfl)) (fun _ _ _ h => h) (Or.inl ⟨by rfl, ?_⟩) hHeld ?_ ?_
            rotate_left
            ·rintro w' ⟨s0, s1⟩
             go_simp
             with_reducible rfl
            rotate_left
            ·simp only [Act.put, List.setIfInBounds_toArray, List.set_cons_zero, List.set_cons_succ, i64_w, i32_w]
             rfl
            refine pure_ (i := 3) (N := some 42) (v := ?_) (a' := ?_) #[true, true, true, true, false, true, true, false, false, false, false, false] rfl rfl (any_of HT_.out (by kernel_rfl)) (fun _ _ _ h => h) (Or.inl ⟨by rfl, ?_⟩) ?_ ?_
            rotate_left
            ·intro w'
             go_simp
             with_reducible rfl
            rotate_left
            ·simp only [Act.put, List.setIfInBounds_toArray, List.set_cons_zero, List.set_cons_succ, i64_w, i32_w]
             rfl
            refine pure_ (i := 4) (N := some 43) (v := ?_) (a' := ?_) #[true, true, true, true, true, true, true, false, false, false, false, false] rfl rfl (any_of HT_.out (by kernel_rfl)) (fun _ _ _ h => h) (Or.inl ⟨by rfl, ?_⟩) ?_ ?_
            rotate_left
            ·intro w'
             go_simp
             with_reducible rfl
            rotate_left
            ·simp only [Act.put, List.setIfInBounds_toArray, List.set_cons_zero, List.set_cons_succ, i64_w, i32_w]
             rfl
            refine take_ (i := 7) (N := some 46) (v := ?_) (a' := ?_) #[true, true, true, true, true, true, true, true, false, false, false, false] rfl rfl (take_ofW HT_.out HW_.out (by kernel_rfl)) (fun _ _ _ h => h) (Or.inl ⟨by rfl, ?_⟩) hHeld ?_ ?_
            rotate_left
            ·rintro w' ⟨s0, s1⟩
             go_simp
             with_reducible rfl
            rotate_left
            ·simp only [Act.put, List.setIfInBounds_toArray, List.set_cons_zero, List.set_cons_succ, i64_w, i32_w]
             rfl
            refine pure_ (i := 8) (N := some 47) (v := ?_) (a' := ?_) #[true, true, true, true, true, true, true, true, true, false, false, false] rfl rfl (any_of HT_.out (by kernel_rfl)) (fun _ _ _ h => h) (Or.inl ⟨by rfl, ?_⟩) ?_ ?_
            rotate_left
            ·intro w'
             go_simp
             with_reducible rfl
            rotate_left
            ·simp only [Act.put, List.setIfInBounds_toArray, List.set_cons_zero, List.set_cons_succ, i64_w, i32_w]
             rfl
            refine pure_ (i := 9) (N := some 48) (v := ?_) (a' := ?_) #[true, true, true, true, true, true, true, true, true, true, false, false] rfl rfl (any_of HT_.out (by kernel_rfl)) (fun _ _ _ h => h) (Or.inl ⟨by rfl, ?_⟩) ?_ ?_
            rotate_left
            ·intro w'
             go_simp
             with_reducible rfl
            rotate_left
            ·simp only [Act.put, List.setIfInBounds_toArray, List.set_cons_zero, List.set_cons_succ, i64_w, i32_w]
             rfl
            refine pure_ (i := 10) (N := some 49) (v := ?_) (a' := ?_) #[true, true, true, true, true, true, true, true, true, true, true, false] rfl rfl (any_of HT_.out (by kernel_rfl)) (fun _ _ _ h => h) (Or.inl ⟨by rfl, ?_⟩) ?_ ?_
            rotate_left
            ·intro w'
             go_simp
             with_reducible rfl
            rotate_left
            ·simp only [Act.put, List.setIfInBounds_toArray, List.set_cons_zero, List.set_cons_succ, i64_w, i32_w]
             rfl
            refine one_ (i := 11) (N := none) #[true, true, true, true, true, true, true, true, true, true, true, true] rfl rfl (one_of HT_.out (by kernel_rfl)) (by decide) (fun K hK => ?_)
            have hs39 : w38.cell? ⟨gb154, 8, none⟩ = some (.int .u16 0) := (blk_cell BK154.out 8).trans rfl
            have hfs39 := blk_frozen BK154.out 8
            have hns39_0 := NB140_154.out
            have hns39_1 := NB153_154.out
            have hms39_0 := NB154_140.out
            have hms39_1 := NB154_153.out
            refine skip_ (w1 := ?_) (by rfl) rfl ?_ ?_
            rotate_left
            ·go_simp
             rfl
            refine hK.out _ _ ⟨((cell_far (p := ⟨gb154, _, none⟩) (by first | exact Kd.own_blk (Kd.V_away HO159.out (fun _ hk => hk.2.2.2.2)) | (rw [add_block]; exact Kd.own_blk (Kd.V_away HO159.out (fun _ hk => hk.2.2.2.2))) | (show (Addr.add _ _).block ≠ _; rw [add_block]; exact Kd.own_blk (Kd.V_away HO159.out (fun _ hk => hk.2.2.2.2))) | (dsimp only; exact Kd.own_blk (Kd.V_away HO159.out (fun _ hk => hk.2.2.2.2)))) _).trans (hHeld.1)), ((cell_far (p := ⟨gb154, _, none⟩) (by first | exact Kd.own_blk (Kd.V_away HO159.out (fun _ hk => hk.2.2.2.2)) | (rw [add_block]; exact Kd.own_blk (Kd.V_away HO159.out (fun _ hk => hk.2.2.2.2))) | (show (Addr.add _ _).block ≠ _; rw [add_block]; exact Kd.own_blk (Kd.V_away HO159.out (fun _ hk => hk.2.2.2.2))) | (dsimp only; exact Kd.own_blk (Kd.V_away HO159.out (fun _ hk => hk.2.2.2.2)))) _).trans (hHeld.2))⟩ (fun hHeld => ?_)
            clear hK K
            refine done_ (done_of HT_.out (by kernel_rfl)) ?_
            try go_wp2
            have n0_ : Aside0 (Kd.V (Kd.int .u8) 5 (w38.setCell ⟨gb154, 8, none⟩ (.int .u16 (Go.bits .or .u16 (IntKind.u16.wrap ((IntKind.u16.wrap (rd y155 0)) * 256)) (IntKind.u16.wrap (rd y155 1))))) w.heap.size (fun k_ => (P0_ k_ ∨ w.heap.size ≤ k_) ∧ some k_ ≠ (.slice Ao16 t148.length co16 : Value).ownBlock ∧ k_ ≠ gb140 ∧ k_ ≠ gb153 ∧ k_ ≠ gb154) (.slice A0 l0.length c0) l0) := ⟨by (with_reducible repeat (first | apply Kd.V_alloc | apply Kd.V_drewN | apply Kd.V_drew)); exact Kd.V_mono (Kd.V_far (p := ⟨gb154, 8, none⟩) (Kd.V_mono HO0.out (fun k_ hk => (⟨hk, hk.2.2.2.2⟩ : _ ∧ k_ ≠ gb154))) (fun _ hk => hk.2) (.int .u16 (Go.bits .or .u16 (IntKind.u16.wrap ((IntKind.u16.wrap (rd y155 0)) * 256)) (IntKind.u16.wrap (rd y155 1))))) (fun _ hk => ⟨hk.1.1, ⟨hk.1.2.1, ⟨hk.1.2.2.1, ⟨hk.1.2.2.2.1, hk.1.2.2.2.2⟩⟩⟩⟩)⟩
            have n1_ : Aside0 (Kd.R (Kd.int .u32) 40 (w38.setCell ⟨gb154, 8, none⟩ (.int .u16 (Go.bits .or .u16 (IntKind.u16.wrap ((IntKind.u16.wrap (rd y155 0)) * 256)) (IntKind.u16.wrap (rd y155 1))))) w.heap.size (fun k_ => (w.heap.size ≤ k_)) (.slice Ao16 t148.length co16) t148) := ⟨by (with_reducible repeat (first | apply Kd.R_alloc | apply Kd.R_drewN | apply Kd.R_drew)); exact Kd.R_mono (Kd.R_far (p := ⟨gb154, 8, none⟩) (Kd.R_types HO150.out BK154.out (by decide)) (fun _ hk => hk.2) (.int .u16 (Go.bits .or .u16 (IntKind.u16.wrap ((IntKind.u16.wrap (rd y155 0)) * 256)) (IntKind.u16.wrap (rd y155 1))))) (fun _ hk => hk.1)⟩
            have n2_ : Aside0 (Kd.V (Kd.int .u8) 5 (w38.setCell ⟨gb154, 8, none⟩ (.int .u16 (Go.bits .or .u16 (IntKind.u16.wrap ((IntKind.u16.wrap (rd y155 0)) * 256)) (IntKind.u16.wrap (rd y155 1))))) w.heap.size (fun k_ => (P0_ k_ ∨ w.heap.size ≤ k_) ∧ some k_ ≠ (.slice Ao16 t148.length co16 : Value).ownBlock ∧ k_ ≠ gb140 ∧ k_ ≠ gb153 ∧ k_ ≠ gb154) (.slice (some ad160) y155.length c24) y155) := ⟨by (with_reducible repeat (first | apply Kd.V_alloc | apply Kd.V_drewN | apply Kd.V_drew)); exact Kd.V_mono (Kd.V_far (p := ⟨gb154, 8, none⟩) (Kd.V_mono HO159.out (fun k_ hk => (⟨hk, hk.2.2.2.2⟩ : _ ∧ k_ ≠ gb154))) (fun _ hk => hk.2) (.int .u16 (Go.bits .or .u16 (IntKind.u16.wrap ((IntKind.u16.wrap (rd y155 0)) * 256)) (IntKind.u16.wrap (rd y155 1))))) (fun _ hk => ⟨hk.1.1, ⟨hk.1.2.1, ⟨hk.1.2.2.1, ⟨hk.1.2.2.2.1, hk.1.2.2.2.2⟩⟩⟩⟩)⟩
            have n3_ : Aside0 ((w38.setCell ⟨gb154, 8, none⟩ (.int .u16 (Go.bits .or .u16 (IntKind.u16.wrap ((IntKind.u16.wrap (rd y155 0)) * 256)) (IntKind.u16.wrap (rd y155 1))))).heap[gb140]? = some (.cells #[.bool false, .bool false, .bool false, .int .i64 0, .int .u16 0, .int .u32 0, .int .u32 0, .slice none 0 0, .int .u16 0, .slice none 0 0, .slice none 0 0, .int .i64 0] 45 (0, 0))) := ⟨by (with_reducible repeat (first | refine blk_drewN ?_ _ | refine blk_drew ?_ | refine blk_alloc ?_ _)); refine blk_far ?_ NB140_154.out _; (with_reducible repeat (first | refine blk_drewN ?_ _ | refine blk_drew ?_ | refine blk_alloc ?_ _)); exact BK140.out⟩
            have n4_ : Aside0 ((w38.setCell ⟨gb154, 8, none⟩ (.int .u16 (Go.bits .or .u16 (IntKind.u16.wrap ((IntKind.u16.wrap (rd y155 0)) * 256)) (IntKind.u16.wrap (rd y155 1))))).heap[gb153]? = some (.cells #[.bool t141, .bool true, .bool t143, .int .i64 t144, .int .u16 t145, .int .u32 t146, .int .u32 t147, .slice Ao16 t148.length co16] 43 (0, 0))) := ⟨by (with_reducible repeat (first | refine blk_drewN ?_ _ | refine blk_drew ?_ | refine blk_alloc ?_ _)); refine blk_far ?_ NB153_154.out _; (with_reducible repeat (first | refine blk_drewN ?_ _ | refine blk_drew ?_ | refine blk_alloc ?_ _)); exact BK153.out⟩
            have n5_ : Aside0 ((w38.setCell ⟨gb154, 8, none⟩ (.int .u16 (Go.bits .or .u16 (IntKind.u16.wrap ((IntKind.u16.wrap (rd y155 0)) * 256)) (IntKind.u16.wrap (rd y155 1))))).heap[gb154]? = some (.cells #[.bool t141, .bool true, .bool t143, .int .i64 t144, .int .u16 t145, .int .u32 t146, .int .u32 t147, .slice Ao16 t148.length co16, .int .u16 (Go.bits .or .u16 (IntKind.u16.wrap ((IntKind.u16.wrap (rd y155 0)) * 256)) (IntKind.u16.wrap (rd y155 1))), .slice none 0 0, .slice none 0 0, .int .i64 0] 45 (0, 0))) := ⟨by (with_reducible repeat (first | refine blk_drewN ?_ _ | refine blk_drew ?_ | refine blk_alloc ?_ _)); refine blk_put (cs := #[.bool t141, .bool true, .bool t143, .int .i64 t144, .int .u16 t145, .int .u32 t146, .int .u32 t147, .slice Ao16 t148.length co16, .int .u16 0, .slice none 0 0, .slice none 0 0, .int .i64 0]) ?_ 8 _ rfl; (with_reducible repeat (first | refine blk_drewN ?_ _ | refine blk_drew ?_ | refine blk_alloc ?_ _)); exact BK154.out⟩
            have n6_ : Aside0 (Below w.heap.size w (w38.setCell ⟨gb154, 8, none⟩ (.int .u16 (Go.bits .or .u16 (IntKind.u16.wrap ((IntKind.u16.wrap (rd y155 0)) * 256)) (IntKind.u16.wrap (rd y155 1)))))) := ⟨by repeat (first | (with_reducible first | exact HB.out | apply below_alloc | apply pw_below_drewN | apply below_drew1 | refine below_set ?_ GE140.out | refine below_set ?_ GE153.out | refine below_set ?_ GE154.out) | exact HB.out)⟩
            (try clear HO0)
            (try clear HO150)
            (try clear HO159)
            (try clear BK140)
            (try clear BK153)
            (try clear BK154)
            (try clear HB)
            generalize (w38.setCell ⟨gb154, 8, none⟩ (.int .u16 (Go.bits .or .u16 (IntKind.u16.wrap ((IntKind.u16.wrap (rd y155 0)) * 256)) (IntKind.u16.wrap (rd y155 1))))) = w40 at n0_ n1_ n2_ n3_ n4_ n5_ n6_ ⊢
            have HO0 := n0_
            have HO150 := n1_
            have HO159 := n2_
            have BK140 := n3_
            have BK153 := n4_
            have BK154 := n5_
            have HB := n6_
            clear n0_ n1_ n2_ n3_ n4_ n5_ n6_
            replace HO0 := Aside0.mk (Kd.V_drew HO0.out)
            replace HO150 := Aside0.mk (Kd.R_drew HO150.out)
            replace HO159 := Aside0.mk (Kd.V_drew HO159.out)
            replace BK140 := Aside0.mk (blk_drew BK140.out)
            replace BK153 := Aside0.mk (blk_drew BK153.out)
            replace BK154 := Aside0.mk (blk_drew BK154.out)
            replace HB := Aside0.mk (below_drew1 HB.out)
            have p162 : 0 ≤ (2 : Int) := (by omega)
            have q162 : 2 < (y155.length : Int) := of_decide_eq_true (by first | (with_reducible assumption) | assumption)
            obtain ⟨ad162, e162, hx162_0⟩ := Kd.at_int (Kd.V_reads' HO159.out).2.2 2 p162 q162
            obtain rfl : ad160 = ad162 := (by injection e162)
            (try simp only [show (2 : Int).toNat = 2 from rfl, Nat.reduceMul, Nat.reduceEqDiff, Go.Addr.add, ↓reduceIte] at hx162_0)
            have qi162 : (2 < y155.length) = True := eq_true (by omega)
            (try rw [show ((2 : Int)).toNat = 2 from rfl] at hx162_0)
            replace p162 := eq_true p162
            replace q162 := eq_true q162
            have p163 : 0 ≤ (3 : Int) := (by omega)
            have q163 : 3 < (y155.length : Int) := of_decide_eq_true (by first | (with_reducible assumption) | assumption)
            obtain ⟨ad163, e163, hx163_0⟩ := Kd.at_int (Kd.V_reads' HO159.out).2.2 3 p163 q163
            obtain rfl : ad160 = ad163 := (by injection e163)
            (try simp only [show (3 : Int).toNat = 3 from rfl, Nat.reduceMul, Nat.reduceEqDiff, Go.Addr.add, ↓reduceIte] at hx163_0)
            have qi163 : (3 < y155.length) = True := eq_true (by omega)
            (try rw [show ((3 : Int)).toNat = 3 from rfl] at hx163_0)
            replace p163 := eq_true p163
            replace q163 := eq_true q163
            refine start_ (n := 12) (S := fun w' => w'.cell? ⟨ad160.block, ad160.off + 2, none⟩ = some (.int .u8 (rd y155 2)) ∧ w'.cell? ⟨ad160.block, ad160.off + 3, none⟩ = some (.int .u8 (rd y155 3))) (ds := []) #[false, false, false, false, false, false, false, false, false, false, false, false] (by kernel_rfl) rfl rfl ⟨hx162_0, hx163_0⟩ (fun hHeld => ?_); refine with_tabW packet_open.tab12 packet_open.bits12 (fun HT_ HW_ => ?_)
            generalize w40.drew = w41 at HO0 HO150 HO159 BK140 BK153 BK154 HB hx162_0 hx163_0 hHeld ⊢
            refine pure_ (i := 0) (N := some 50) (v := ?_) (a' := ?_) #[true, false, false, false, false, false, false, false, false, false, false, false] rfl rfl (any_of HT_.out (by kernel_rfl)) (fun _ _ _ h => h) (Or.inl ⟨by rfl, ?_⟩) ?_ ?_
            rotate_left
            ·intro w'
             go_simp
             with_reducible rfl
            rotate_left
            ·simp only [Act.put, List.setIfInBounds_toArray, List.set_cons_zero, List.set_cons_succ, i64_w, i32_w]
             rfl
            refine pure_ (i := 1) (N := some 51) (v := ?_) (a' := ?_) #[true, true, false, false, false, false, false, false, false, false, false, false] rfl rfl (any_of HT_.out (by kernel_rfl)) (fun _ _ _ h => h) (Or.inl ⟨by rfl, ?_⟩) ?_ ?_
            rotate_left
            ·intro w'
             go_simp
             with_reducible rfl
            rotate_left
            ·simp only [Act.put, List.setIfInBounds_toArray, List.set_cons_zero, List.set_cons_succ, i64_w, i32_w]
             rfl
            refine pure_ (i := 5) (N := some 55) (v := ?_) (a' := ?_) #[true, true, false, false, false, true, false, false, false, false, false, false] rfl rfl (any_of HT_.out (by kernel_rfl)) (fun _ _ _ h => h) (Or.inl ⟨by rfl, ?_⟩) ?_ ?_
            rotate_left
            ·intro w'
             go_simp
             with_reducible rfl
            rotate_left
            ·simp only [Act.put, List.setIfInBounds_toArray, List.set_cons_zero, List.set_cons_succ, i64_w, i32_w]
             rfl
            refine pure_ (i := 6) (N := some 56) (v := ?_) (a' := ?_) #[true, true, false, false, false, true, true, false, false, false, false, false] rfl rfl (any_of HT_.out (by kernel_rfl)) (fun _ _ _ h => h) (Or.inl ⟨by rfl, ?_⟩) ?_ ?_
            rotate_left
            ·intro w'
             go_simp
             with_reducible rfl
            rotate_left
            ·simp only [Act.put, List.setIfInBounds_toArray, List.set_cons_zero, List.set_cons_succ, i64_w, i32_w]
             rfl
            refine take_ (i := 2) (N := some 52) (v := ?_) (a' := ?_) #[true, true, true, false, false, true, true, false, false, false, false, false] rfl rfl (take_ofW HT_.out HW_.out (by kernel_rfl)) (fun _ _ _ h => h) (Or.inl ⟨by rfl, ?_⟩) hHeld ?_ ?_
            rotate_left
            ·rintro w' ⟨s0, s1⟩
             go_simp
             with_reducible rfl
            rotate_left
            ·simp only [Act.put, List.setIfInBounds_toArray, List.set_cons_zero, List.set_cons_succ, i64_w, i32_w]
             rfl
            refine pure_ (i := 3) (N := some 53) (v := ?_) (a' := ?_) #[true, true, true, true, false, true, true, false, false, false, false, false] rfl rfl (any_of HT_.out (by kernel_rfl)) (fun _ _ _ h => h) (Or.inl ⟨by rfl, ?_⟩) ?_ ?_
            rotate_left
            ·intro w'
             go_simp
             with_reducible rfl
            rotate_left
            ·simp only [Act.put, List.setIfInBounds_toArray, List.set_cons_zero, List.set_cons_succ, i64_w, i32_w]
             rfl
            refine pure_ (i := 4) (N := some 54) (v := ?_) (a' := ?_) #[true, true, true, true, true, true, true, false, false, false, false, false] rfl rfl (any_of HT_.out (by kernel_rfl)) (fun _ _ _ h => h) (Or.inl ⟨by rfl, ?_⟩) ?_ ?_
            rotate_left
            ·intro w'
             go_simp
             with_reducible rfl
            rotate_left
            ·simp only [Act.put, List.setIfInBounds_toArray, List.set_cons_zero, List.set_cons_succ, i64_w, i32_w]
             rfl
            refine take_ (i := 7) (N := some 57) (v := ?_) (a' := ?_) #[true, true, true, true, true, true, true, true, false, false, false, false] rfl rfl (take_ofW HT_.out HW_.out (by kernel_rfl)) (fun _ _ _ h => h) (Or.inl ⟨by rfl, ?_⟩) hHeld ?_ ?_
            rotate_left
            ·rintro w' ⟨s0, s1⟩
             go_simp
             with_reducible rfl
            rotate_left
            ·simp only [Act.put, List.setIfInBounds_toArray, List.set_cons_zero, List.set_cons_succ, i64_w, i32_w]
             rfl
            refine pure_ (i := 8) (N := some 58) (v := ?_) (a' := ?_) #[true, true, true, true, true, true, true, true, true, false, false, false] rfl rfl (any_of HT_.out (by kernel_rfl)) (fun _ _ _ h => h) (Or.inl ⟨by rfl, ?_⟩) ?_ ?_
            rotate_left
            ·intro w'
             go_simp
             with_reducible rfl
            rotate_left
            ·simp only [Act.put, List.setIfInBounds_toArray, List.set_cons_zero, List.set_cons_succ, i64_w, i32_w]
             rfl
            refine pure_ (i := 9) (N := some 59) (v := ?_) (a' := ?_) #[true, true, true, true, true, true, true, true, true, true, false, false] rfl rfl (any_of HT_.out (by kernel_rfl)) (fun _ _ _ h => h) (Or.inl ⟨by rfl, ?_⟩) ?_ ?_
            rotate_left
            ·intro w'
             go_simp
             with_reducible rfl
            rotate_left
            ·simp only [Act.put, List.setIfInBounds_toArray, List.set_cons_zero, List.set_cons_succ, i64_w, i32_w]
             rfl
            refine pure_ (i := 10) (N := some 60) (v := ?_) (a' := ?_) #[true, true, true, true, true, true, true, true, true, true, true, false] rfl rfl (any_of HT_.out (by kernel_rfl)) (fun _ _ _ h => h) (Or.inl ⟨by rfl, ?_⟩) ?_ ?_
            rotate_left
            ·intro w'
             go_simp
             with_reducible rfl
            rotate_left
            ·simp only [Act.put, List.setIfInBounds_toArray, List.set_cons_zero, List.set_cons_succ, i64_w, i32_w]
             rfl
            refine pure_ (i := 11) (N := some 10) (v := ?_) (a' := ?_) #[true, true, true, true, true, true, true, true, true, true, true, true] rfl rfl (any_of HT_.out (by kernel_rfl)) (fun _ _ _ h => h) (Or.inl ⟨by rfl, ?_⟩) ?_ ?_
            rotate_left
            ·intro w'
             go_simp
             with_reducible rfl
            rotate_left
            ·simp only [Act.put, List.setIfInBounds_toArray, List.set_cons_zero, List.set_cons_succ, i64_w, i32_w]
             rfl
            refine done_ (done_of HT_.out (by kernel_rfl)) ?_
            have q42 : (4 : Int) ≤ ((y155.length : Int) : Int) := of_decide_eq_true (by first | (with_reducible assumption) | assumption)
            obtain ⟨i042, hi042, _, hsz42, _⟩ := info_parts info5
            have hroom42 : y155.length ≤ c24 := (Kd.V_reads' HO159.out).2.1
            have hC42 : Kd.F (Kd.int .u8) _ _ (some ad160) y155.length y155 := (Kd.V_at (base := w.heap.size) HO159.out).2.2
            have hcut42 := cut_from (P := Try.prog) 22 5 .i64 Try.underlying22 hi042 1 hsz42 (some ad160) y155.length c24 4 (by omega) q42
            have hr42 := Kd.F_cut (m := (4 : Int).toNat) (c := c24) hC42 (by omega) hroom42
            obtain ⟨A42, hA42⟩ : ∃ A1, A1 = (if c24 = (4 : Int).toNat then (some ad160) else ((some ad160) : Option Addr).map (·.add ((4 : Int).toNat * 1))) := ⟨_, rfl⟩
            obtain ⟨c42, hc42⟩ : ∃ c1, c1 = c24 - (4 : Int).toNat := ⟨_, rfl⟩
            have hy42 : y164.length = y155.length - (4 : Int).toNat := (by rw [Ny164.out, List.length_drop] <;> omega)
            rw [show (y155).drop (4 : Int).toNat = y164 from Ny164.out.symm] at hr42
            replace hr42 : Kd.F (Kd.int .u8) _ _ A42 y164.length y164 := (by rw [hA42]; exact hr42)
            rw [← hy42, ← hA42, ← hc42] at hcut42
            have HO168 := Aside0.mk (show Kd.V (Kd.int .u8) 5 _ w.heap.size _ (.slice A42 y164.length c42) y164 from Kd.V_mk (by rw [hy42, hc42]; exact Nat.sub_le_sub_right hroom42 _) hr42)
            have HC168 := Aside0.mk (show y164.length ≤ c42 from by rw [hy42, hc42]; exact Nat.sub_le_sub_right hroom42 _)
            clear hr42 hC42 hroom42 hi042 hsz42 hc42
            have KY42 := Aside0.mk hy42
            have KA42 := Aside0.mk hA42
            clear hy42 hA42
            replace q42 := eq_true q42
            have hnb43 := NB140_153.out
            have hnc43 := NB153_140.out
            have hnb44 := NB140_154.out
            have hnc44 := NB154_140.out
            obtain ⟨Z45_0, Z45_1, Z45_2, Z45_3, Z45_4, Z45_5, Z45_6, Z45_7, Z45_8, Z45_9, Z45_10, Z45_11, Y45_0, Y45_1, Y45_2, Y45_3, Y45_4, Y45_5, Y45_6, Y45_7, Y45_8, Y45_9, Y45_10, Y45_11⟩ := bc12 BK140.out
            try go_wp2_with (first | ((with_reducible refine gate_store (t := 45) (p := 2) rfl ?_); refine store_event (t := 45) (p := 2) (v := ?vo_w46) (w1 := ((((((((((((w41.setCell ⟨gb140, 0, none⟩ (.bool false)).setCell ⟨gb140, 1, none⟩ (.bool false)).setCell ⟨gb140, 2, none⟩ (.bool false)).setCell ⟨gb140, 3, none⟩ (.int .i64 0)).setCell ⟨gb140, 4, none⟩ (.int .u16 0)).setCell ⟨gb140, 5, none⟩ (.int .u32 0)).setCell ⟨gb140, 6, none⟩ (.int .u32 0)).setCell ⟨gb140, 7, none⟩ (.slice none 0 0)).setCell ⟨gb140, 8, none⟩ (.int .u16 0)).setCell ⟨gb140, 9, none⟩ (.slice none 0 0)).setCell ⟨gb140, 10, none⟩ (.slice none 0 0)).setCell ⟨gb140, 11, none⟩ (.int .i64 0))) ?hg ?ho ?hn ?hr ?_; (case ho => rfl); (case hg => rfl); (case hn => rfl); (case hr => first | (go_simp; done) | (go_simp; rfl)); intro w46 hw; replace HO0 : Aside0 (Kd.V (Kd.int .u8) 5 w46 w.heap.size (fun k_ => (P0_ k_ ∨ w.heap.size ≤ k_) ∧ some k_ ≠ (.slice Ao16 t148.length co16 : Value).ownBlock ∧ k_ ≠ gb140 ∧ k_ ≠ gb153 ∧ k_ ≠ gb154) (.slice A0 l0.length c0) l0) := ⟨Kd.V_mono (vfF hw (Kd.V_mono HO0.out (fun k_ hk => (⟨hk, hk.2.2.1⟩ : _ ∧ k_ ≠ gb140)))) (fun _ hk => ⟨hk.1.1, ⟨hk.1.2.1, ⟨hk.1.2.2.1, ⟨hk.1.2.2.2.1, hk.1.2.2.2.2⟩⟩⟩⟩)⟩; replace HO150 := rfE hw HO150 BK140; replace HO159 : Aside0 (Kd.V (Kd.int .u8) 5 w46 w.heap.size (fun k_ => (P0_ k_ ∨ w.heap.size ≤ k_) ∧ some k_ ≠ (.slice Ao16 t148.length co16 : Value).ownBlock ∧ k_ ≠ gb140 ∧ k_ ≠ gb153 ∧ k_ ≠ gb154) (.slice (some ad160) y155.length c24) y155) := ⟨Kd.V_mono (vfF hw (Kd.V_mono HO159.out (fun k_ hk => (⟨hk, hk.2.2.1⟩ : _ ∧ k_ ≠ gb140)))) (fun _ hk => ⟨hk.1.1, ⟨hk.1.2.1, ⟨hk.1.2.2.1, ⟨hk.1.2.2.2.1, hk.1.2.2.2.2⟩⟩⟩⟩)⟩; replace HO168 : Aside0 (Kd.V (Kd.int .u8) 5 w46 w.heap.size (fun k_ => (P0_ k_ ∨ w.heap.size ≤ k_) ∧ some k_ ≠ (.slice Ao16 t148.length co16 : Value).ownBlock ∧ k_ ≠ gb140 ∧ k_ ≠ gb153 ∧ k_ ≠ gb154) (.slice A42 y164.length c42) y164) := ⟨Kd.V_mono (vfF hw (Kd.V_mono HO168.out (fun k_ hk => (⟨hk, hk.2.2.1⟩ : _ ∧ k_ ≠ gb140)))) (fun _ hk => ⟨hk.1.1, ⟨hk.1.2.1, ⟨hk.1.2.2.1, ⟨hk.1.2.2.2.1, hk.1.2.2.2.2⟩⟩⟩⟩)⟩; replace BK140 : Aside0 (w46.heap[gb140]? = some (.cells #[.bool false, .bool false, .bool false, .int .i64 0, .int .u16 0, .int .u32 0, .int .u32 0, .slice none 0 0, .int .u16 0, .slice none 0 0, .slice none 0 0, .int .i64 0] 45 (0, 0))) := ⟨by rw [hw]; apply puts12; exact BK140.out⟩; replace BK153 := bfE hw BK153 NB153_140; replace BK154 := bfE hw BK154 NB154_140; replace HB := bsE hw HB GE140; clear hw))
            refine bodyPost_ret (results_ctt rfl _ _ gb140 45 #[.bool false, .bool false, .bool false, .int .i64 0, .int .u16 0, .int .u32 0, .int .u32 0, .slice none 0 0, .int .u16 0, .slice none 0 0, .slice none 0 0, .int .i64 0] (0, 0) _ rfl (pk BK140) Try.underlying45 rfl (by kernel_rfl)) rfl ?_
            exact ⟨_, _, _, _, by first | rfl | (simp [errW_none, errW_some] <;> rfl) | (simp [*, errW_none, errW_some] <;> rfl), by first | exact Kd.R_nil _ _ _ _ _ | exact Kd.N_nil _ _ _ _ _ | exact Kd.V_nil _ _ _ _ _ | exact Kd.Q_nil _ _ _ _ _ | exact Kd.S_nil _ _ _ _ _, by first | exact Kd.R_nil _ _ _ _ _ | exact Kd.N_nil _ _ _ _ _ | exact Kd.V_nil _ _ _ _ _ | exact Kd.Q_nil _ _ _ _ _ | exact Kd.S_nil _ _ _ _ _, by first | exact Kd.R_nil _ _ _ _ _ | exact Kd.N_nil _ _ _ _ _ | exact Kd.V_nil _ _ _ _ _ | exact Kd.Q_nil _ _ _ _ _ | exact Kd.S_nil _ _ _ _ _, (by exact Kd.V_nil _ _ _ _ _), by repeat (first | (with_reducible first | exact HB.out | apply below_alloc | apply pw_below_drewN | apply below_drew1 | refine below_set ?_ GE140.out | refine below_set ?_ GE153.out | refine below_set ?_ GE154.out) | exact HB.out)⟩
           rw [if_neg c37] at H
           have c37b0 : decide ((y164.length : Int) < (wrap64 (4 * (Go.bits .or .i64 (wrap64 ((wrap64 (rd y155 2)) * 256)) (wrap64 (rd y155 3)))))) = false := decide_eq_false c37
           clear c37
           obtain ⟨ji47, hji47⟩ : ∃ j_ : Int, (wrap64 (4 * (Go.bits .or .i64 (wrap64 ((wrap64 (rd y155 2)) * 256)) (wrap64 (rd y155 3))))) = j_ := ⟨_, rfl⟩
           replace H : (if 0 ≤ (ji47) then (if (ji47) ≤ (y164.length : Int) then ((packet_part.f k (y164.take ((ji47) : Int).toNat)).bind fun t174 => (packet_open.j0 k (y164.drop ((ji47) : Int).toNat) t141 true t143 t144 t145 t146 t147 t148 t141 true t143 t144 t145 t146 t147 t148 (Go.bits .or .u16 (IntKind.u16.wrap ((IntKind.u16.wrap (rd y155 0)) * 256)) (IntKind.u16.wrap (rd y155 1))) t174 0)) else (none)) else (none)) = some (r1, r2, r3, r4, r5, r6, r7, r8, r9, r10, r11, r12, r13, r14) := by first | (rw [hji47] at H; exact H) | (simp only [hji47] at H ⊢; exact H)
           (try rw [hji47] at c37b0)
           have hji47w : (IntKind.i64.wrap (4 * (Go.bits .or .i64 (wrap64 ((wrap64 (rd y155 2)) * 256)) (wrap64 (rd y155 3))))) = ji47 := (i64_w _).trans hji47
           by_cases c48 : 0 ≤ (ji47)
           ·rw [if_pos c48] at H
            have c48b0 := eq_true c48
            have c48b1 : decide (0 ≤ (ji47)) = true := decide_eq_true c48
            clear c48
            by_cases c49 : (ji47) ≤ (y164.length : Int)
            ·rw [if_pos c49] at H
             have c49b0 := eq_true c49
             have c49b1 : decide ((ji47) ≤ (y164.length : Int)) = true := decide_eq_true c49
             clear c49
             obtain ⟨y169, hy169⟩ : ∃ y_ : List Int, y_ = (y164.take ((ji47) : Int).toNat) := ⟨_, rfl⟩
             replace H : ((packet_part.f k y169).bind fun t174 => (packet_open.j0 k (y164.drop ((ji47) : Int).toNat) t141 true t143 t144 t145 t146 t147 t148 t141 true t143 t144 t145 t146 t147 t148 (Go.bits .or .u16 (IntKind.u16.wrap ((IntKind.u16.wrap (rd y155 0)) * 256)) (IntKind.u16.wrap (rd y155 1))) t174 0)) = some (r1, r2, r3, r4, r5, r6, r7, r8, r9, r10, r11, r12, r13, r14) := by first | (rw [hy169]; with_reducible exact H) | (have H2_ := (Option.bind_some _ _).symm.trans H; rw [hy169]; with_reducible exact H2_) | (have H2_ := (Option.bind_some _ _).symm.trans H; with_reducible exact H2_) | with_reducible exact H | (rw [hy169]; exact H) | exact H
             have Ny169 := Aside0.mk hy169
             clear hy169
             replace H := Option.bind_eq_some_iff.mp H
             obtain ⟨t174, A500, H⟩ := H
             replace H : (packet_open.j0 k (y164.drop ((ji47) : Int).toNat) t141 true t143 t144 t145 t146 t147 t148 t141 true t143 t144 t145 t146 t147 t148 (Go.bits .or .u16 (IntKind.u16.wrap ((IntKind.u16.wrap (rd y155 0)) * 256)) (IntKind.u16.wrap (rd y155 1))) t174 0) = some (r1, r2, r3, r4, r5, r6, r7, r8, r9, r10, r11, r12, r13, r14) := H
             have A50 := Aside0.mk A500
             clear A500
             have c51b0 := eq_true (of_decide_eq_true (by first | (with_reducible assumption) | assumption) : 0 ≤ (ji47))
             have c52b0 := eq_true (of_decide_eq_true (by first | (with_reducible assumption) | assumption) : (ji47) ≤ (y164.length : Int))
             obtain ⟨y177, hy177⟩ : ∃ y_ : List Int, y_ = (y164.drop ((ji47) : Int).toNat) := ⟨_, rfl⟩
             replace H : (packet_open.j0 k y177 t141 true t143 t144 t145 t146 t147 t148 t141 true t143 t144 t145 t146 t147 t148 (Go.bits .or .u16 (IntKind.u16.wrap ((IntKind.u16.wrap (rd y155 0)) * 256)) (IntKind.u16.wrap (rd y155 1))) t174 0) = some (r1, r2, r3, r4, r5, r6, r7, r8, r9, r10, r11, r12, r13, r14) := by first | (rw [hy177]; with_reducible exact H) | (have H2_ := (Option.bind_some _ _).symm.trans H; rw [hy177]; with_reducible exact H2_) | (have H2_ := (Option.bind_some _ _).symm.trans H; with_reducible exact H2_) | with_reducible exact H | (rw [hy177]; exact H) | exact H
             have Ny177 := Aside0.mk hy177
             clear hy177
             have H' := Aside0.mk H
             clear H
             try go_wp2
             replace HO0 := Aside0.mk (Kd.V_drew HO0.out)
             replace HO150 := Aside0.mk (Kd.R_drew HO150.out)
             replace HO159 := Aside0.mk (Kd.V_drew HO159.out)
             replace BK140 := Aside0.mk (blk_drew BK140.out)
             replace BK153 := Aside0.mk (blk_drew BK153.out)
             replace BK154 := Aside0.mk (blk_drew BK154.out)
             replace HB := Aside0.mk (below_drew1 HB.out)
             have p160 : 0 ≤ (0 : Int) := (by omega)
             have q160 : 0 < (y155.length : Int) := of_decide_eq_true (by first | (with_reducible assumption) | assumption)
             obtain ⟨ad160, e160, hx160_0⟩ := Kd.at_int (Kd.V_reads' HO159.out).2.2 0 p160 q160
             cases e160
             have qi160 : (0 < y155.length) = True := eq_true (by omega)
             (try rw [show ((0 : Int)).toNat = 0 from rfl] at hx160_0)
             (try rw [Addr.add_zero'] at hx160_0)
             replace p160 := eq_true p160
             replace q160 := eq_true q160
             have p161 : 0 ≤ (1 : Int) := (by omega)
             have q161 : 1 < (y155.length : Int) := of_decide_eq_true (by first | (with_reducible assumption) | assumption)
             obtain ⟨ad161, e161, hx161_0⟩ := Kd.at_int (Kd.V_reads' HO159.out).2.2 1 p161 q161
             obtain rfl : ad160 = ad161 := (by injection e161)
             (try simp only [show (1 : Int).toNat = 1 from rfl, Nat.reduceMul, Nat.reduceEqDiff, Go.Addr.add, ↓reduceIte] at hx161_0)
             have qi161 : (1 < y155.length) = True := eq_true (by omega)
             (try rw [show ((1 : Int)).toNat = 1 from rfl] at hx161_0)
             replace p161 := eq_true p161
             replace q161 := eq_true q161
             refine start_ (n := 12) (S := fun w' => w'.cell? ad160 = some (.int .u8 (rd y155 0)) ∧ w'.cell? ⟨ad160.block, ad160.off + 1, none⟩ = some (.int .u8 (rd y155 1))) (ds := []) #[false, false, false, false, false, false, false, false, false, false, false, false] (by kernel_rfl) rfl rfl ⟨hx160_0, hx161_0⟩ (fun hHeld => ?_); refine with_tabW packet_open.tab11 packet_open.bits11 (fun HT_ HW_ => ?_)
             generalize w23.drew = w53 at HO0 HO150 HO159 BK140 BK153 BK154 HB hx160_0 hx161_0 hHeld ⊢
             refine pure_ (i := 0) (N := some 39) (v := ?_) (a' := ?_) #[true, false, false, false, false, false, false, false, false, false, false, false] rfl rfl (any_of HT_.out (by kernel_rfl)) (fun _ _ _ h => h) (Or.inl ⟨by rfl, ?_⟩) ?_ ?_
             rotate_left
             ·intro w'
              go_simp
              with_reducible rfl
             rotate_left
             ·simp only [Act.put, List.setIfInBounds_toArray, List.set_cons_zero, List.set_cons_succ, i64_w, i32_w]
              rfl
             refine pure_ (i := 1) (N := some 40) (v := ?_) (a' := ?_) #[true, true, false, false, false, false, false, false, false, false, false, false] rfl rfl (any_of HT_.out (by kernel_rfl)) (fun _ _ _ h => h) (Or.inl ⟨by rfl, ?_⟩) ?_ ?_
             rotate_left
             ·intro w'
              go_simp
              with_reducible rfl
             rotate_left
             ·simp only [Act.put, List.setIfInBounds_toArray, List.set_cons_zero, List.set_cons_succ, i64_w, i32_w]
              rfl
             refine pure_ (i := 5) (N := some 44) (v := ?_) (a' := ?_) #[true, true, false, false, false, true, false, false, false, false, false, false] rfl rfl (any_of HT_.out (by kernel_rfl)) (fun _ _ _ h => h) (Or.inl ⟨by rfl, ?_⟩) ?_ ?_
             rotate_left
             ·intro w'
              go_simp
              with_reducible rfl
             rotate_left
             ·simp only [Act.put, List.setIfInBounds_toArray, List.set_cons_zero, List.set_cons_succ, i64_w, i32_w]
              rfl
             refine pure_ (i := 6) (N := some 45) (v := ?_) (a' := ?_) #[true, true, false, false, false, true, true, false, false, false, false, false] rfl rfl (any_of HT_.out (by kernel_rfl)) (fun _ _ _ h => h) (Or.inl ⟨by rfl, ?_⟩) ?_ ?_
             rotate_left
             ·intro w'
              go_simp
              with_reducible rfl
             rotate_left
             ·simp only [Act.put, List.setIfInBounds_toArray, List.set_cons_zero, List.set_cons_succ, i64_w, i32_w]
              rfl
             refine take_ (i := 2) (N := some 41) (v := ?_) (a' := ?_) #[true, true, true, false, false, true, true, false, false, false, false, false] rfl rfl (take_ofW HT_.out HW_.out (by kernel_rfl)) (fun _ _ _ h => h) (Or.inl ⟨by rfl, ?_⟩) hHeld ?_ ?_
             rotate_left
             ·rintro w' ⟨s0, s1⟩
              go_simp
              with_reducible rfl
             rotate_left
             ·simp only [Act.put, List.setIfInBounds_toArray, List.set_cons_zero, List.set_cons_succ, i64_w, i32_w]
              rfl
             refine pure_ (i := 3) (N := some 42) (v := ?_) (a' := ?_) #[true, true, true, true, false, true, true, false, false, false, false, false] rfl rfl (any_of HT_.out (by kernel_rfl)) (fun _ _ _ h => h) (Or.inl ⟨by rfl, ?_⟩) ?_ ?_
             rotate_left
             ·intro w'
              go_simp
              with_reducible rfl
             rotate_left
             ·simp only [Act.put, List.setIfInBounds_toArray, List.set_cons_zero, List.set_cons_succ, i64_w, i32_w]
              rfl
             refine pure_ (i := 4) (N := some 43) (v := ?_) (a' := ?_) #[true, true, true, true, true, true, true, false, false, false, false, false] rfl rfl (any_of HT_.out (by kernel_rfl)) (fun _ _ _ h => h) (Or.inl ⟨by rfl, ?_⟩) ?_ ?_
             rotate_left
             ·intro w'
              go_simp
              with_reducible rfl
             rotate_left
             ·simp only [Act.put, List.setIfInBounds_toArray, List.set_cons_zero, List.set_cons_succ, i64_w, i32_w]
              rfl
             refine take_ (i := 7) (N := some 46) (v := ?_) (a' := ?_) #[true, true, true, true, true, true, true, true, false, false, false, false] rfl rfl (take_ofW HT_.out HW_.out (by kernel_rfl)) (fun _ _ _ h => h) (Or.inl ⟨by rfl, ?_⟩) hHeld ?_ ?_
             rotate_left
             ·rintro w' ⟨s0, s1⟩
              go_simp
              with_reducible rfl
             rotate_left
             ·simp only [Act.put, List.setIfInBounds_toArray, List.set_cons_zero, List.set_cons_succ, i64_w, i32_w]
              rfl
             refine pure_ (i := 8) (N := some 47) (v := ?_) (a' := ?_) #[true, true, true, true, true, true, true, true, true, false, false, false] rfl rfl (any_of HT_.out (by kernel_rfl)) (fun _ _ _ h => h) (Or.inl ⟨by rfl, ?_⟩) ?_ ?_
             rotate_left
             ·intro w'
              go_simp
              with_reducible rfl
             rotate_left
             ·simp only [Act.put, List.setIfInBounds_toArray, List.set_cons_zero, List.set_cons_succ, i64_w, i32_w]
              rfl
             refine pure_ (i := 9) (N := some 48) (v := ?_) (a' := ?_) #[true, true, true, true, true, true, true, true, true, true, false, false] rfl rfl (any_of HT_.out (by kernel_rfl)) (fun _ _ _ h => h) (Or.inl ⟨by rfl, ?_⟩) ?_ ?_
             rotate_left
             ·intro w'
              go_simp
              with_reducible rfl
             rotate_left
             ·simp only [Act.put, List.setIfInBounds_toArray, List.set_cons_zero, List.set_cons_succ, i64_w, i32_w]
              rfl
             refine pure_ (i := 10) (N := some 49) (v := ?_) (a' := ?_) #[true, true, true, true, true, true, true, true, true, true, true, false] rfl rfl (any_of HT_.out (by kernel_rfl)) (fun _ _ _ h => h) (Or.inl ⟨by rfl, ?_⟩) ?_ ?_
             rotate_left
             ·intro w'
              go_simp
              with_reducible rfl
             rotate_left
             ·simp only [Act.put, List.setIfInBounds_toArray, List.set_cons_zero, List.set_cons_succ, i64_w, i32_w]
              rfl
             refine one_ (i := 11) (N := none) #[true, true, true, true, true, true, true, true, true, true, true, true] rfl rfl (one_of HT_.out (by kernel_rfl)) (by decide) (fun K hK => ?_)
             have hs54 : w53.cell? ⟨gb154, 8, none⟩ = some (.int .u16 0) := (blk_cell BK154.out 8).trans rfl
             have hfs54 := blk_frozen BK154.out 8
             have hns54_0 := NB140_154.out
             have hns54_1 := NB153_154.out
             have hms54_0 := NB154_140.out
             have hms54_1 := NB154_153.out
             refine skip_ (w1 := ?_) (by rfl) rfl ?_ ?_
             rotate_left
             ·go_simp
              rfl
             refine hK.out _ _ ⟨((cell_far (p := ⟨gb154, _, none⟩) (by first | exact Kd.own_blk (Kd.V_away HO159.out (fun _ hk => hk.2.2.2.2)) | (rw [add_block]; exact Kd.own_blk (Kd.V_away HO159.out (fun _ hk => hk.2.2.2.2))) | (show (Addr.add _ _).block ≠ _; rw [add_block]; exact Kd.own_blk (Kd.V_away HO159.out (fun _ hk => hk.2.2.2.2))) | (dsimp only; exact Kd.own_blk (Kd.V_away HO159.out (fun _ hk => hk.2.2.2.2)))) _).trans (hHeld.1)), ((cell_far (p := ⟨gb154, _, none⟩) (by first | exact Kd.own_blk (Kd.V_away HO159.out (fun _ hk => hk.2.2.2.2)) | (rw [add_block]; exact Kd.own_blk (Kd.V_away HO159.out (fun _ hk => hk.2.2.2.2))) | (show (Addr.add _ _).block ≠ _; rw [add_block]; exact Kd.own_blk (Kd.V_away HO159.out (fun _ hk => hk.2.2.2.2))) | (dsimp only; exact Kd.own_blk (Kd.V_away HO159.out (fun _ hk => hk.2.2.2.2)))) _).trans (hHeld.2))⟩ (fun hHeld => ?_)
             clear hK K
             refine done_ (done_of HT_.out (by kernel_rfl)) ?_
             try go_wp2
             have n0_ : Aside0 (Kd.V (Kd.int .u8) 5 (w53.setCell ⟨gb154, 8, none⟩ (.int .u16 (Go.bits .or .u16 (IntKind.u16.wrap ((IntKind.u16.wrap (rd y155 0)) * 256)) (IntKind.u16.wrap (rd y155 1))))) w.heap.size (fun k_ => (P0_ k_ ∨ w.heap.size ≤ k_) ∧ some k_ ≠ (.slice Ao16 t148.length co16 : Value).ownBlock ∧ k_ ≠ gb140 ∧ k_ ≠ gb153 ∧ k_ ≠ gb154) (.slice A0 l0.length c0) l0) := ⟨by (with_reducible repeat (first | apply Kd.V_alloc | apply Kd.V_drewN | apply Kd.V_drew)); exact Kd.V_mono (Kd.V_far (p := ⟨gb154, 8, none⟩) (Kd.V_mono HO0.out (fun k_ hk => (⟨hk, hk.2.2.2.2⟩ : _ ∧ k_ ≠ gb154))) (fun _ hk => hk.2) (.int .u16 (Go.bits .or .u16 (IntKind.u16.wrap ((IntKind.u16.wrap (rd y155 0)) * 256)) (IntKind.u16.wrap (rd y155 1))))) (fun _ hk => ⟨hk.1.1, ⟨hk.1.2.1, ⟨hk.1.2.2.1, ⟨hk.1.2.2.2.1, hk.1.2.2.2.2⟩⟩⟩⟩)⟩
             have n1_ : Aside0 (Kd.R (Kd.int .u32) 40 (w53.setCell ⟨gb154, 8, none⟩ (.int .u16 (Go.bits .or .u16 (IntKind.u16.wrap ((IntKind.u16.wrap (rd y155 0)) * 256)) (IntKind.u16.wrap (rd y155 1))))) w.heap.size (fun k_ => (w.heap.size ≤ k_)) (.slice Ao16 t148.length co16) t148) := ⟨by (with_reducible repeat (first | apply Kd.R_alloc | apply Kd.R_drewN | apply Kd.R_drew)); exact Kd.R_mono (Kd.R_far (p := ⟨gb154, 8, none⟩) (Kd.R_types HO150.out BK154.out (by decide)) (fun _ hk => hk.2) (.int .u16 (Go.bits .or .u16 (IntKind.u16.wrap ((IntKind.u16.wrap (rd y155 0)) * 256)) (IntKind.u16.wrap (rd y155 1))))) (fun _ hk => hk.1)⟩
             have n2_ : Aside0 (Kd.V (Kd.int .u8) 5 (w53.setCell ⟨gb154, 8, none⟩ (.int .u16 (Go.bits .or .u16 (IntKind.u16.wrap ((IntKind.u16.wrap (rd y155 0)) * 256)) (IntKind.u16.wrap (rd y155 1))))) w.heap.size (fun k_ => (P0_ k_ ∨ w.heap.size ≤ k_) ∧ some k_ ≠ (.slice Ao16 t148.length co16 : Value).ownBlock ∧ k_ ≠ gb140 ∧ k_ ≠ gb153 ∧ k_ ≠ gb154) (.slice (some ad160) y155.length c24) y155) := ⟨by (with_reducible repeat (first | apply Kd.V_alloc | apply Kd.V_drewN | apply Kd.V_drew)); exact Kd.V_mono (Kd.V_far (p := ⟨gb154, 8, none⟩) (Kd.V_mono HO159.out (fun k_ hk => (⟨hk, hk.2.2.2.2⟩ : _ ∧ k_ ≠ gb154))) (fun _ hk => hk.2) (.int .u16 (Go.bits .or .u16 (IntKind.u16.wrap ((IntKind.u16.wrap (rd y155 0)) * 256)) (IntKind.u16.wrap (rd y155 1))))) (fun _ hk => ⟨hk.1.1, ⟨hk.1.2.1, ⟨hk.1.2.2.1, ⟨hk.1.2.2.2.1, hk.1.2.2.2.2⟩⟩⟩⟩)⟩
             have n3_ : Aside0 ((w53.setCell ⟨gb154, 8, none⟩ (.int .u16 (Go.bits .or .u16 (IntKind.u16.wrap ((IntKind.u16.wrap (rd y155 0)) * 256)) (IntKind.u16.wrap (rd y155 1))))).heap[gb140]? = some (.cells #[.bool false, .bool false, .bool false, .int .i64 0, .int .u16 0, .int .u32 0, .int .u32 0, .slice none 0 0, .int .u16 0, .slice none 0 0, .slice none 0 0, .int .i64 0] 45 (0, 0))) := ⟨by (with_reducible repeat (first | refine blk_drewN ?_ _ | refine blk_drew ?_ | refine blk_alloc ?_ _)); refine blk_far ?_ NB140_154.out _; (with_reducible repeat (first | refine blk_drewN ?_ _ | refine blk_drew ?_ | refine blk_alloc ?_ _)); exact BK140.out⟩
             have n4_ : Aside0 ((w53.setCell ⟨gb154, 8, none⟩ (.int .u16 (Go.bits .or .u16 (IntKind.u16.wrap ((IntKind.u16.wrap (rd y155 0)) * 256)) (IntKind.u16.wrap (rd y155 1))))).heap[gb153]? = some (.cells #[.bool t141, .bool true, .bool t143, .int .i64 t144, .int .u16 t145, .int .u32 t146, .int .u32 t147, .slice Ao16 t148.length co16] 43 (0, 0))) := ⟨by (with_reducible repeat (first | refine blk_drewN ?_ _ | refine blk_drew ?_ | refine blk_alloc ?_ _)); refine blk_far ?_ NB153_154.out _; (with_reducible repeat (first | refine blk_drewN ?_ _ | refine blk_drew ?_ | refine blk_alloc ?_ _)); exact BK153.out⟩
             have n5_ : Aside0 ((w53.setCell ⟨gb154, 8, none⟩ (.int .u16 (Go.bits .or .u16 (IntKind.u16.wrap ((IntKind.u16.wrap (rd y155 0)) * 256)) (IntKind.u16.wrap (rd y155 1))))).heap[gb154]? = some (.cells #[.bool t141, .bool true, .bool t143, .int .i64 t144, .int .u16 t145, .int .u32 t146, .int .u32 t147, .slice Ao16 t148.length co16, .int .u16 (Go.bits .or .u16 (IntKind.u16.wrap ((IntKind.u16.wrap (rd y155 0)) * 256)) (IntKind.u16.wrap (rd y155 1))), .slice none 0 0, .slice none 0 0, .int .i64 0] 45 (0, 0))) := ⟨by (with_reducible repeat (first | refine blk_drewN ?_ _ | refine blk_drew ?_ | refine blk_alloc ?_ _)); refine blk_put (cs := #[.bool t141, .bool true, .bool t143, .int .i64 t144, .int .u16 t145, .int .u32 t146, .int .u32 t147, .slice Ao16 t148.length co16, .int .u16 0, .slice none 0 0, .slice none 0 0, .int .i64 0]) ?_ 8 _ rfl; (with_reducible repeat (first | refine blk_drewN ?_ _ | refine blk_drew ?_ | refine blk_alloc ?_ _)); exact BK154.out⟩
             have n6_ : Aside0 (Below w.heap.size w (w53.setCell ⟨gb154, 8, none⟩ (.int .u16 (Go.bits .or .u16 (IntKind.u16.wrap ((IntKind.u16.wrap (rd y155 0)) * 256)) (IntKind.u16.wrap (rd y155 1)))))) := ⟨by repeat (first | (with_reducible first | exact HB.out | apply below_alloc | apply pw_below_drewN | apply below_drew1 | refine below_set ?_ GE140.out | refine below_set ?_ GE153.out | refine below_set ?_ GE154.out) | exact HB.out)⟩
             (try clear HO0)
             (try clear HO150)
             (try clear HO159)
             (try clear BK140)
             (try clear BK153)
             (try clear BK154)
             (try clear HB)
             generalize (w53.setCell ⟨gb154, 8, none⟩ (.int .u16 (Go.bits .or .u16 (IntKind.u16.wrap ((IntKind.u16.wrap (rd y155 0)) * 256)) (IntKind.u16.wrap (rd y155 1))))) = w55 at n0_ n1_ n2_ n3_ n4_ n5_ n6_ ⊢
             have HO0 := n0_
             have HO150 := n1_
             have HO159 := n2_
             have BK140 := n3_
             have BK153 := n4_
             have BK154 := n5_
             have HB := n6_
             clear n0_ n1_ n2_ n3_ n4_ n5_ n6_
             replace HO0 := Aside0.mk (Kd.V_drew HO0.out)
             replace HO150 := Aside0.mk (Kd.R_drew HO150.out)
             replace HO159 := Aside0.mk (Kd.V_drew HO159.out)
             replace BK140 := Aside0.mk (blk_drew BK140.out)
             replace BK153 := Aside0.mk (blk_drew BK153.out)
             replace BK154 := Aside0.mk (blk_drew BK154.out)
             replace HB := Aside0.mk (below_drew1 HB.out)
             have p162 : 0 ≤ (2 : Int) := (by omega)
             have q162 : 2 < (y155.length : Int) := of_decide_eq_true (by first | (with_reducible assumption) | assumption)
             obtain ⟨ad162, e162, hx162_0⟩ := Kd.at_int (Kd.V_reads' HO159.out).2.2 2 p162 q162
             obtain rfl : ad160 = ad162 := (by injection e162)
             (try simp only [show (2 : Int).toNat = 2 from rfl, Nat.reduceMul, Nat.reduceEqDiff, Go.Addr.add, ↓reduceIte] at hx162_0)
             have qi162 : (2 < y155.length) = True := eq_true (by omega)
             (try rw [show ((2 : Int)).toNat = 2 from rfl] at hx162_0)
             replace p162 := eq_true p162
             replace q162 := eq_true q162
             have p163 : 0 ≤ (3 : Int) := (by omega)
             have q163 : 3 < (y155.length : Int) := of_decide_eq_true (by first | (with_reducible assumption) | assumption)
             obtain ⟨ad163, e163, hx163_0⟩ := Kd.at_int (Kd.V_reads' HO159.out).2.2 3 p163 q163
             obtain rfl : ad160 = ad163 := (by injection e163)
             (try simp only [show (3 : Int).toNat = 3 from rfl, Nat.reduceMul, Nat.reduceEqDiff, Go.Addr.add, ↓reduceIte] at hx163_0)
             have qi163 : (3 < y155.length) = True := eq_true (by omega)
             (try rw [show ((3 : Int)).toNat = 3 from rfl] at hx163_0)
             replace p163 := eq_true p163
             replace q163 := eq_true q163
             refine start_ (n := 12) (S := fun w' => w'.cell? ⟨ad160.block, ad160.off + 2, none⟩ = some (.int .u8 (rd y155 2)) ∧ w'.cell? ⟨ad160.block, ad160.off + 3, none⟩ = some (.int .u8 (rd y155 3))) (ds := []) #[false, false, false, false, false, false, false, false, false, false, false, false] (by kernel_rfl) rfl rfl ⟨hx162_0, hx163_0⟩ (fun hHeld => ?_); refine with_tabW packet_open.tab12 packet_open.bits12 (fun HT_ HW_ => ?_)
             generalize w55.drew = w56 at HO0 HO150 HO159 BK140 BK153 BK154 HB hx162_0 hx163_0 hHeld ⊢
             refine pure_ (i := 0) (N := some 50) (v := ?_) (a' := ?_) #[true, false, false, false, false, false, false, false, false, false, false, false] rfl rfl (any_of HT_.out (by kernel_rfl)) (fun _ _ _ h => h) (Or.inl ⟨by rfl, ?_⟩) ?_ ?_
             rotate_left
             ·intro w'
              go_simp
              with_reducible rfl
             rotate_left
             ·simp only [Act.put, List.setIfInBounds_toArray, List.set_cons_zero, List.set_cons_succ, i64_w, i32_w]
              rfl
             refine pure_ (i := 1) (N := some 51) (v := ?_) (a' := ?_) #[true, true, false, false, false, false, false, false, false, false, false, false] rfl rfl (any_of HT_.out (by kernel_rfl)) (fun _ _ _ h => h) (Or.inl ⟨by rfl, ?_⟩) ?_ ?_
             rotate_left
             ·intro w'
              go_simp
              with_reducible rfl
             rotate_left
             ·simp only [Act.put, List.setIfInBounds_toArray, List.set_cons_zero, List.set_cons_succ, i64_w, i32_w]
              rfl
             refine pure_ (i := 5) (N := some 55) (v := ?_) (a' := ?_) #[true, true, false, false, false, true, false, false, false, false, false, false] rfl rfl (any_of HT_.out (by kernel_rfl)) (fun _ _ _ h => h) (Or.inl ⟨by rfl, ?_⟩) ?_ ?_
             rotate_left
             ·intro w'
              go_simp
              with_reducible rfl
             rotate_left
             ·simp only [Act.put, List.setIfInBounds_toArray, List.set_cons_zero, List.set_cons_succ, i64_w, i32_w]
              rfl
             refine pure_ (i := 6) (N := some 56) (v := ?_) (a' := ?_) #[true, true, false, false, false, true, true, false, false, false, false, false] rfl rfl (any_of HT_.out (by kernel_rfl)) (fun _ _ _ h => h) (Or.inl ⟨by rfl, ?_⟩) ?_ ?_
             rotate_left
             ·intro w'
              go_simp
              with_reducible rfl
             rotate_left
             ·simp only [Act.put, List.setIfInBounds_toArray, List.set_cons_zero, List.set_cons_succ, i64_w, i32_w]
              rfl
             refine take_ (i := 2) (N := some 52) (v := ?_) (a' := ?_) #[true, true, true, false, false, true, true, false, false, false, false, false] rfl rfl (take_ofW HT_.out HW_.out (by kernel_rfl)) (fun _ _ _ h => h) (Or.inl ⟨by rfl, ?_⟩) hHeld ?_ ?_
             rotate_left
             ·rintro w' ⟨s0, s1⟩
              go_simp
              with_reducible rfl
             rotate_left
             ·simp only [Act.put, List.setIfInBounds_toArray, List.set_cons_zero, List.set_cons_succ, i64_w, i32_w]
              rfl
             refine pure_ (i := 3) (N := some 53) (v := ?_) (a' := ?_) #[true, true, true, true, false, true, true, false, false, false, false, false] rfl rfl (any_of HT_.out (by kernel_rfl)) (fun _ _ _ h => h) (Or.inl ⟨by rfl, ?_⟩) ?_ ?_
             rotate_left
             ·intro w'
              go_simp
              with_reducible rfl
             rotate_left
             ·simp only [Act.put, List.setIfInBounds_toArray, List.set_cons_zero, List.set_cons_succ, i64_w, i32_w]
              rfl
             refine pure_ (i := 4) (N := some 54) (v := ?_) (a' := ?_) #[true, true, true, true, true, true, true, false, false, false, false, false] rfl rfl (any_of HT_.out (by kernel_rfl)) (fun _ _ _ h => h) (Or.inl ⟨by rfl, ?_⟩) ?_ ?_
             rotate_left
             ·intro w'
              go_simp
              with_reducible rfl
             rotate_left
             ·simp only [Act.put, List.setIfInBounds_toArray, List.set_cons_zero, List.set_cons_succ, i64_w, i32_w]
              rfl
             refine take_ (i := 7) (N := some 57) (v := ?_) (a' := ?_) #[true, true, true, true, true, true, true, true, false, false, false, false] rfl rfl (take_ofW HT_.out HW_.out (by kernel_rfl)) (fun _ _ _ h => h) (Or.inl ⟨by rfl, ?_⟩) hHeld ?_ ?_
             rotate_left
             ·rintro w' ⟨s0, s1⟩
              go_simp
              with_reducible rfl
             rotate_left
             ·simp only [Act.put, List.setIfInBounds_toArray, List.set_cons_zero, List.set_cons_succ, i64_w, i32_w]
              rfl
             refine pure_ (i := 8) (N := some 58) (v := ?_) (a' := ?_) #[true, true, true, true, true, true, true, true, true, false, false, false] rfl rfl (any_of HT_.out (by kernel_rfl)) (fun _ _ _ h => h) (Or.inl ⟨by rfl, ?_⟩) ?_ ?_
             rotate_left
             ·intro w'
              go_simp
              with_reducible rfl
             rotate_left
             ·simp only [Act.put, List.setIfInBounds_toArray, List.set_cons_zero, List.set_cons_succ, i64_w, i32_w]
              rfl
             refine pure_ (i := 9) (N := some 59) (v := ?_) (a' := ?_) #[true, true, true, true, true, true, true, true, true, true, false, false] rfl rfl (any_of HT_.out (by kernel_rfl)) (fun _ _ _ h => h) (Or.inl ⟨by rfl, ?_⟩) ?_ ?_
             rotate_left
             ·intro w'
              go_simp
              with_reducible rfl
             rotate_left
             ·simp only [Act.put, List.setIfInBounds_toArray, List.set_cons_zero, List.set_cons_succ, i64_w, i32_w]
              rfl
             refine pure_ (i := 10) (N := some 60) (v := ?_) (a' := ?_) #[true, true, true, true, true, true, true, true, true, true, true, false] rfl rfl (any_of HT_.out (by kernel_rfl)) (fun _ _ _ h => h) (Or.inl ⟨by rfl, ?_⟩) ?_ ?_
             rotate_left
             ·intro w'
              go_simp
              with_reducible rfl
             rotate_left
             ·simp only [Act.put, List.setIfInBounds_toArray, List.set_cons_zero, List.set_cons_succ, i64_w, i32_w]
              rfl
             refine pure_ (i := 11) (N := some 10) (v := ?_) (a' := ?_) #[true, true, true, true, true, true, true, true, true, true, true, true] rfl rfl (any_of HT_.out (by kernel_rfl)) (fun _ _ _ h => h) (Or.inl ⟨by rfl, ?_⟩) ?_ ?_
             rotate_left
             ·intro w'
              go_simp
              with_reducible rfl
             rotate_left
             ·simp only [Act.put, List.setIfInBounds_toArray, List.set_cons_zero, List.set_cons_succ, i64_w, i32_w]
              rfl
             refine done_ (done_of HT_.out (by kernel_rfl)) ?_
             have q57 : (4 : Int) ≤ ((y155.length : Int) : Int) := of_decide_eq_true (by first | (with_reducible assumption) | assumption)
             obtain ⟨i057, hi057, _, hsz57, _⟩ := info_parts info5
             have hroom57 : y155.length ≤ c24 := (Kd.V_reads' HO159.out).2.1
             have hC57 : Kd.F (Kd.int .u8) _ _ (some ad160) y155.length y155 := (Kd.V_at (base := w.heap.size) HO159.out).2.2
             have hcut57 := cut_from (P := Try.prog) 22 5 .i64 Try.underlying22 hi057 1 hsz57 (some ad160) y155.length c24 4 (by omega) q57
             have hr57 := Kd.F_cut (m := (4 : Int).toNat) (c := c24) hC57 (by omega) hroom57
             obtain ⟨A57, hA57⟩ : ∃ A1, A1 = (if c24 = (4 : Int).toNat then (some ad160) else ((some ad160) : Option Addr).map (·.add ((4 : Int).toNat * 1))) := ⟨_, rfl⟩
             obtain ⟨c57, hc57⟩ : ∃ c1, c1 = c24 - (4 : Int).toNat := ⟨_, rfl⟩
             have hy57 : y164.length = y155.length - (4 : Int).toNat := (by rw [Ny164.out, List.length_drop] <;> omega)
             rw [show (y155).drop (4 : Int).toNat = y164 from Ny164.out.symm] at hr57
             replace hr57 : Kd.F (Kd.int .u8) _ _ A57 y164.length y164 := (by rw [hA57]; exact hr57)
             rw [← hy57, ← hA57, ← hc57] at hcut57
             have HO168 := Aside0.mk (show Kd.V (Kd.int .u8) 5 _ w.heap.size _ (.slice A57 y164.length c57) y164 from Kd.V_mk (by rw [hy57, hc57]; exact Nat.sub_le_sub_right hroom57 _) hr57)
             have HC168 := Aside0.mk (show y164.length ≤ c57 from by rw [hy57, hc57]; exact Nat.sub_le_sub_right hroom57 _)
             clear hr57 hC57 hroom57 hi057 hsz57 hc57
             have KY57 := Aside0.mk hy57
             have KA57 := Aside0.mk hA57
             clear hy57 hA57
             replace q57 := eq_true q57
             have q58 : ((ji47) : Int) ≤ ((y164.length : Int) : Int) := of_decide_eq_true (by first | (with_reducible assumption) | assumption)
             obtain ⟨i058, hi058, _, hsz58, _⟩ := info_parts info5
             have hroom58 : y164.length ≤ c57 := (Kd.V_reads' HO168.out).2.1
             have hC58 : Kd.F (Kd.int .u8) _ _ A57 y164.length y164 := (Kd.V_at (base := w.heap.size) HO168.out).2.2
             have hcut58 := cut_to (P := Try.prog) 22 5 .i64 Try.underlying22 hi058 A57 y164.length c57 (ji47) (oT (by first | (with_reducible assumption) | assumption)) q58 hroom58
             have hr58 := Kd.F_take (m := ((ji47) : Int).toNat) hC58 (by omega)
             have hy58 : y169.length = ((ji47) : Int).toNat := (by rw [Ny169.out, List.length_take]; omega)
             rw [← Ny169.out] at hr58
             rw [← hy58] at hcut58
             have HO173 := Aside0.mk (show Kd.V (Kd.int .u8) 5 _ w.heap.size _ (.slice A57 y169.length c57) y169 from Kd.V_mk (by omega) hr58)
             have HC173 := Aside0.mk (show y169.length ≤ c57 from by omega)
             clear hr58 hC58 hroom58 hi058 hsz58
             have KY58 := Aside0.mk hy58
             clear hy58
             replace q58 := eq_true q58
             try go_wp2_with (first | ((with_reducible refine gate_callee (f := 48) rfl ?_); refine goesL_ (some 71) rfl rfl Try.func48 (by kernel_rfl) rfl #[.slice A57 y169.length c57] rfl (by (try simp only [List.map_toArray, List.map_cons, List.map_nil]); first | done | rfl | (simp only [List.length_drop, List.length_take]; rfl)) ?_; (with_reducible refine (packet_part.calls k (fun k_ => ((P0_ k_ ∨ w.heap.size ≤ k_) ∧ (some k_ ≠ (.slice Ao16 t148.length co16 : Value).ownBlock ∧ (k_ ≠ gb140 ∧ (k_ ≠ gb153 ∧ k_ ≠ gb154))))) _ _ y169 t174 _ ?side1 A50.out).mono ?_); (case side1 => exact HO173.out); rintro e w59 ⟨v175, rfl, ho0, hb⟩; refine ⟨_, rfl, ?_⟩; replace HO0 := Aside0.mk (Kd.V_elder' (by (with_reducible repeat (first | apply Kd.V_alloc | apply Kd.V_drewN | apply Kd.V_drew)); exact HO0.out) (Kd.R_base ho0) hb); replace HO150 := rbE HO150 hb; replace HO159 := Aside0.mk (Kd.V_elder' (by (with_reducible repeat (first | apply Kd.V_alloc | apply Kd.V_drewN | apply Kd.V_drew)); exact HO159.out) (Kd.R_base ho0) hb); replace HO168 := Aside0.mk (Kd.V_elder' (by (with_reducible repeat (first | apply Kd.V_alloc | apply Kd.V_drewN | apply Kd.V_drew)); exact HO168.out) (Kd.R_base ho0) hb); replace HO173 := Aside0.mk (Kd.V_elder' (by (with_reducible repeat (first | apply Kd.V_alloc | apply Kd.V_drewN | apply Kd.V_drew)); exact HO173.out) (Kd.R_base ho0) hb); have HO176 := Aside0.mk (Kd.R_lower (Kd.R_newM (M := fun k_ => (w.heap.size ≤ k_)) (Kd.R_mono (ok' := fun k_ => True) ho0 (fun _ hk_ => trivial)) (below_size (pB HB)) (fun k_ h_ => h_)) (below_size (pB HB))); replace BK140 := bbE BK140 hb; replace BK153 := bbE BK153 hb; replace BK154 := bbE BK154 hb; replace HB := bstE HB hb; (try clear hb); (try clear hb2); (try clear hk); (try clear hi); (try clear ho0); obtain ⟨Ao60, co60, eo60⟩ := Kd.R_slice HO176.out; subst eo60; have hnb61 := NB154_140.out; have hnc61 := NB140_154.out; have hnb62 := NB154_153.out; have hnc62 := NB153_154.out; obtain ⟨Z63_0, Z63_1, Z63_2, Z63_3, Z63_4, Z63_5, Z63_6, Z63_7, Z63_8, Z63_9, Z63_10, Z63_11, Y63_0, Y63_1, Y63_2, Y63_3, Y63_4, Y63_5, Y63_6, Y63_7, Y63_8, Y63_9, Y63_10, Y63_11⟩ := bc12 BK154.out) | ((with_reducible refine gate_store (t := 22) (p := 72) rfl ?_); refine store_event (t := 22) (p := 72) (v := ?vo_w64) (w1 := (w59.setCell ⟨gb154, 9, none⟩ (.slice Ao60 t174.length co60))) ?hg ?ho ?hn ?hr ?_; (case ho => rfl); (case hg => rfl); (case hn => rfl); (case hr => first | (go_simp; done) | (go_simp; rfl)); intro w64 hw; replace HO0 : Aside0 (Kd.V (Kd.int .u8) 5 w64 w.heap.size (fun k_ => (P0_ k_ ∨ w.heap.size ≤ k_) ∧ some k_ ≠ (.slice Ao16 t148.length co16 : Value).ownBlock ∧ some k_ ≠ (.slice Ao60 t174.length co60 : Value).ownBlock ∧ k_ ≠ gb140 ∧ k_ ≠ gb153 ∧ k_ ≠ gb154) (.slice A0 l0.length c0) l0) := ⟨Kd.V_mono (vfF hw (Kd.V_mono HO0.out (fun k_ hk => (⟨hk, hk.1.2.2.2.2⟩ : _ ∧ k_ ≠ gb154)))) (fun _ hk => ⟨hk.1.1.1, ⟨hk.1.1.2.1, ⟨hk.1.2, ⟨hk.1.1.2.2.1, ⟨hk.1.1.2.2.2.1, hk.1.1.2.2.2.2⟩⟩⟩⟩⟩)⟩; replace HO150 := rfE hw HO150 BK154; replace HO159 : Aside0 (Kd.V (Kd.int .u8) 5 w64 w.heap.size (fun k_ => (P0_ k_ ∨ w.heap.size ≤ k_) ∧ some k_ ≠ (.slice Ao16 t148.length co16 : Value).ownBlock ∧ some k_ ≠ (.slice Ao60 t174.length co60 : Value).ownBlock ∧ k_ ≠ gb140 ∧ k_ ≠ gb153 ∧ k_ ≠ gb154) (.slice (some ad160) y155.length c24) y155) := ⟨Kd.V_mono (vfF hw (Kd.V_mono HO159.out (fun k_ hk => (⟨hk, hk.1.2.2.2.2⟩ : _ ∧ k_ ≠ gb154)))) (fun _ hk => ⟨hk.1.1.1, ⟨hk.1.1.2.1, ⟨hk.1.2, ⟨hk.1.1.2.2.1, ⟨hk.1.1.2.2.2.1, hk.1.1.2.2.2.2⟩⟩⟩⟩⟩)⟩; replace HO168 : Aside0 (Kd.V (Kd.int .u8) 5 w64 w.heap.size (fun k_ => (P0_ k_ ∨ w.heap.size ≤ k_) ∧ some k_ ≠ (.slice Ao16 t148.length co16 : Value).ownBlock ∧ some k_ ≠ (.slice Ao60 t174.length co60 : Value).ownBlock ∧ k_ ≠ gb140 ∧ k_ ≠ gb153 ∧ k_ ≠ gb154) (.slice A57 y164.length c57) y164) := ⟨Kd.V_mono (vfF hw (Kd.V_mono HO168.out (fun k_ hk => (⟨hk, hk.1.2.2.2.2⟩ : _ ∧ k_ ≠ gb154)))) (fun _ hk => ⟨hk.1.1.1, ⟨hk.1.1.2.1, ⟨hk.1.2, ⟨hk.1.1.2.2.1, ⟨hk.1.1.2.2.2.1, hk.1.1.2.2.2.2⟩⟩⟩⟩⟩)⟩; replace HO173 : Aside0 (Kd.V (Kd.int .u8) 5 w64 w.heap.size (fun k_ => (P0_ k_ ∨ w.heap.size ≤ k_) ∧ some k_ ≠ (.slice Ao16 t148.length co16 : Value).ownBlock ∧ some k_ ≠ (.slice Ao60 t174.length co60 : Value).ownBlock ∧ k_ ≠ gb140 ∧ k_ ≠ gb153 ∧ k_ ≠ gb154) (.slice A57 y169.length c57) y169) := ⟨Kd.V_mono (vfF hw (Kd.V_mono HO173.out (fun k_ hk => (⟨hk, hk.1.2.2.2.2⟩ : _ ∧ k_ ≠ gb154)))) (fun _ hk => ⟨hk.1.1.1, ⟨hk.1.1.2.1, ⟨hk.1.2, ⟨hk.1.1.2.2.1, ⟨hk.1.1.2.2.2.1, hk.1.1.2.2.2.2⟩⟩⟩⟩⟩)⟩; replace HO176 : Aside0 (Kd.R (Kd.int .u8) 5 w64 w.heap.size (fun k_ => (w.heap.size ≤ k_)) (.slice Ao60 t174.length co60) t174) := ⟨Kd.R_mono (rfF hw HO176 BK154) (fun _ hk => hk.1.1)⟩; replace BK140 := bfE hw BK140 NB140_154; replace BK153 := bfE hw BK153 NB153_154; replace BK154 : Aside0 (w64.heap[gb154]? = some (.cells #[.bool t141, .bool true, .bool t143, .int .i64 t144, .int .u16 t145, .int .u32 t146, .int .u32 t147, .slice Ao16 t148.length co16, .int .u16 (Go.bits .or .u16 (IntKind.u16.wrap ((IntKind.u16.wrap (rd y155 0)) * 256)) (IntKind.u16.wrap (rd y155 1))), .slice Ao60 t174.length co60, .slice none 0 0, .int .i64 0] 45 (0, 0))) := ⟨by rw [hw]; exact blk_put BK154.out 9 _ rfl⟩; replace HB := bsE hw HB GE154; clear hw; have q65 : ((ji47) : Int) ≤ ((y164.length : Int) : Int) := of_decide_eq_true (by first | (with_reducible assumption) | assumption); obtain ⟨i065, hi065, _, hsz65, _⟩ := info_parts info5; have hroom65 : y164.length ≤ c57 := (Kd.V_reads' HO168.out).2.1; have hC65 : Kd.F (Kd.int .u8) _ _ A57 y164.length y164 := (Kd.V_at (base := w.heap.size) HO168.out).2.2; have q065 : (0 : Int) ≤ ((ji47) : Int) := of_decide_eq_true (by first | (with_reducible assumption) | assumption); have hcut65 := cut_from (P := Try.prog) 22 5 .i64 Try.underlying22 hi065 1 hsz65 A57 y164.length c57 (ji47) q065 q65; have hr65 := Kd.F_cut (m := ((ji47) : Int).toNat) (c := c57) hC65 (by omega) hroom65; obtain ⟨A65, hA65⟩ : ∃ A1, A1 = (if c57 = ((ji47) : Int).toNat then A57 else (A57 : Option Addr).map (·.add (((ji47) : Int).toNat * 1))) := ⟨_, rfl⟩; obtain ⟨c65, hc65⟩ : ∃ c1, c1 = c57 - ((ji47) : Int).toNat := ⟨_, rfl⟩; have hy65 : y177.length = y164.length - ((ji47) : Int).toNat := (by rw [Ny177.out, List.length_drop] <;> omega); rw [show (y164).drop ((ji47) : Int).toNat = y177 from Ny177.out.symm] at hr65; replace hr65 : Kd.F (Kd.int .u8) _ _ A65 y177.length y177 := (by rw [hA65]; exact hr65); rw [← hy65, ← hA65, ← hc65] at hcut65; have HO181 := Aside0.mk (show Kd.V (Kd.int .u8) 5 _ w.heap.size _ (.slice A65 y177.length c65) y177 from Kd.V_mk (by rw [hy65, hc65]; exact Nat.sub_le_sub_right hroom65 _) hr65); have HC181 := Aside0.mk (show y177.length ≤ c65 from by rw [hy65, hc65]; exact Nat.sub_le_sub_right hroom65 _); clear hr65 hC65 hroom65 hi065 hsz65 hc65; have KY65 := Aside0.mk hy65; have KA65 := Aside0.mk hA65; clear hy65 hA65; replace q65 := eq_true q65))
             go_meet
             case rel => exact ⟨_, (y177), (false), (false), (false), (0), (0), (0), (0), (0), (0), (Go.bits .or .u16 (IntKind.u16.wrap ((IntKind.u16.wrap (rd y155 0)) * 256)) (IntKind.u16.wrap (rd y155 1))), (t174), (.slice Ao60 t174.length co60), H', ⟨by first | omega | exact Nat.le_refl _⟩, ⟨by (with_reducible repeat (first | apply Kd.V_alloc | apply Kd.V_drewN | apply Kd.V_drew)); exact Kd.V_mono HO181.out (fun _ hk => ⟨hk.1, ⟨hk.2.1, ⟨hk.2.1, ⟨hk.2.2.1, ⟨hk.2.2.2.1, ⟨hk.2.2.2.2.1, hk.2.2.2.2.2⟩⟩⟩⟩⟩⟩)⟩, ⟨by (with_reducible repeat (first | apply Kd.R_alloc | apply Kd.R_drewN | apply Kd.R_drew)); exact HO150.out⟩, ⟨by (with_reducible repeat (first | apply Kd.R_alloc | apply Kd.R_drewN | apply Kd.R_drew)); exact HO150.out⟩, ⟨by (with_reducible repeat (first | apply Kd.R_alloc | apply Kd.R_drewN | apply Kd.R_drew)); exact HO176.out⟩, ⟨by (with_reducible repeat (first | refine blk_drewN ?_ _ | refine blk_drew ?_ | refine blk_alloc ?_ _)); exact BK140.out⟩, ⟨by (with_reducible repeat (first | refine blk_drewN ?_ _ | refine blk_drew ?_ | refine blk_alloc ?_ _)); exact BK153.out⟩, ⟨by (with_reducible repeat (first | refine blk_drewN ?_ _ | refine blk_drew ?_ | refine blk_alloc ?_ _)); exact BK154.out⟩, ⟨by repeat (first | (with_reducible first | exact HB.out | apply below_alloc | apply pw_below_drewN | apply below_drew1 | refine below_set ?_ GE140.out | refine below_set ?_ GE153.out | refine below_set ?_ GE154.out) | exact HB.out)⟩⟩
            rw [if_neg c49] at H
            exact absurd H (by simp)
           rw [if_neg c48] at H
           exact absurd H (by simp)
          rw [if_neg c36] at H
          exact absurd H (by simp)
         rw [if_neg c35] at H
         exact absurd H (by simp)
        rw [if_neg c34] at H
        exact absurd H (by simp)
       rw [if_neg c33] at H
       exact absurd H (by simp)
      rw [if_neg c32] at H
      exact absurd H (by simp)
     replace c26 := Bool.eq_false_iff.mpr c26
     subst c26
     have H1 : (packet_open.j0 k y155 t141 false t143 t144 t145 t146 t147 t148 t141 false t143 t144 t145 t146 t147 t148 0 ([] : List Int) 0) = some (r1, r2, r3, r4, r5, r6, r7, r8, r9, r10, r11, r12, r13, r14) := by rw [if_neg (show ¬ (false = true) by decide)] at H; exact H
     clear H
     have H := H1
     clear H1
     have H' := Aside0.mk H
     clear H
     go_wp2
     go_meet
     case rel => exact ⟨_, (y155), (false), (false), (false), (0), (0), (0), (0), (0), (0), (0), (([] : List Int)), (.slice none 0 0), H', ⟨by first | omega | exact Nat.le_refl _⟩, ⟨by (with_reducible repeat (first | apply Kd.V_alloc | apply Kd.V_drewN | apply Kd.V_drew)); exact Kd.V_mono HO159.out (fun _ hk => ⟨hk.1, ⟨hk.2.1, ⟨hk.2.1, ⟨(by simp [Value.ownBlock]), ⟨hk.2.2.1, ⟨hk.2.2.2.1, hk.2.2.2.2⟩⟩⟩⟩⟩⟩)⟩, ⟨by (with_reducible repeat (first | apply Kd.R_alloc | apply Kd.R_drewN | apply Kd.R_drew)); exact HO150.out⟩, ⟨by (with_reducible repeat (first | apply Kd.R_alloc | apply Kd.R_drewN | apply Kd.R_drew)); exact HO150.out⟩, ⟨by first | exact Kd.R_nil _ _ _ _ _ | exact Kd.N_nil _ _ _ _ _ | exact Kd.V_nil _ _ _ _ _ | exact Kd.Q_nil _ _ _ _ _ | exact Kd.S_nil _ _ _ _ _⟩, ⟨by (with_reducible repeat (first | refine blk_drewN ?_ _ | refine blk_drew ?_ | refine blk_alloc ?_ _)); exact BK140.out⟩, ⟨by (with_reducible repeat (first | refine blk_drewN ?_ _ | refine blk_drew ?_ | refine blk_alloc ?_ _)); exact BK153.out⟩, ⟨by (with_reducible repeat (first | refine blk_drewN ?_ _ | refine blk_drew ?_ | refine blk_alloc ?_ _)); exact BK154.out⟩, ⟨by repeat (first | (with_reducible first | exact HB.out | apply below_alloc | apply pw_below_drewN | apply below_drew1 | refine below_set ?_ GE140.out | refine below_set ?_ GE153.out | refine below_set ?_ GE154.out) | exact HB.out)⟩⟩
    case rest =>
     clear HC10
     try clear c1
     try clear p1
     try clear q1
     try clear hx1
     try clear qi1
     try clear c2
     try clear p2
     try clear c3
     try clear c4
     try clear q4
     try clear c5
     try clear q5
     try clear c6
     try clear p6
     try clear q6
     try clear p16
     try clear q16
     try clear hx16
     try clear qi16
     try clear c24
     try clear c26
     try clear c32
     try clear c33
     try clear c34
     try clear c35
     try clear c36
     try clear c37
     try clear c37b0
     try clear c42
     try clear q42
     try clear c43
     try clear c44
     try clear c48
     try clear c48b0
     try clear c48b1
     try clear c49
     try clear c49b0
     try clear c49b1
     try clear c51
     try clear c51b0
     try clear c52
     try clear c52b0
     try clear c57
     try clear q57
     try clear q58
     try clear c61
     try clear c62
     try clear p64
     try clear c65
     try clear q65
     try clear Z45_0 Z45_1 Z45_10 Z45_11 Z45_2 Z45_3 Z45_4 Z45_5 Z45_6 Z45_7 Z45_8 Z45_9
     try clear Z63_0 Z63_1 Z63_10 Z63_11 Z63_2 Z63_3 Z63_4 Z63_5 Z63_6 Z63_7 Z63_8 Z63_9
     try clear Y45_0 Y45_1 Y45_10 Y45_11 Y45_2 Y45_3 Y45_4 Y45_5 Y45_6 Y45_7 Y45_8 Y45_9
     try clear Y63_0 Y63_1 Y63_10 Y63_11 Y63_2 Y63_3 Y63_4 Y63_5 Y63_6 Y63_7 Y63_8 Y63_9
     try clear hx160_0
     try clear hx161_0
     try clear hx162_0
     try clear hx163_0
     try clear p160
     try clear p161
     try clear p162
     try clear p163
     try clear q065
     try clear q160
     try clear q161
     try clear q162
     try clear q163
     try clear q42
     try clear q57
     try clear q58
     try clear q65
     obtain ⟨kq, x9_9, x141000_9, x141001_9, x141002_9, x141003_9, x141004_9, x141005_9, x141006_9, x141008_9, x141011_9, x155008_9, x155009_9, u155009, HA, HJ9, HO_9, HO_154007, HO_155007, HO_155009, BK140, BK153, BK154, HB⟩ := hcut
     cases kq with
     | zero => exact absurd HA.out (by simp [packet_open.j0])
     | succ kj9 =>
      have H := HA.out
      clear HA
      simp only [packet_open.j0] at H
      by_cases c66 : t141 = true
      ·subst c66
       have H1 : ((pad_Trail.f x9_9).bind fun bt182 => (if bt182.2 = 0 then (if 0 ≤ (wrap64 ((x9_9.length : Int) - bt182.1)) then (if (wrap64 ((x9_9.length : Int) - bt182.1)) ≤ (x9_9.length : Int) then ((packet_part.f kj9 (x9_9.take ((wrap64 ((x9_9.length : Int) - bt182.1)) : Int).toNat)).bind fun t189 => (some (true, t142, t143, t144, t145, t146, t147, t148, x155008_9, x155009_9, t189, bt182.1, (x9_9.drop ((wrap64 ((x9_9.length : Int) - bt182.1)) : Int).toNat), 0))) else (none)) else (none)) else (some (false, false, false, 0, 0, 0, 0, ([] : List Int), 0, ([] : List Int), ([] : List Int), 0, ([] : List Int), 5)))) = some (r1, r2, r3, r4, r5, r6, r7, r8, r9, r10, r11, r12, r13, r14) := by rw [if_pos rfl] at H; exact H
       clear H
       have H := H1
       clear H1
       replace H := Option.bind_eq_some_iff.mp H
       obtain ⟨⟨t182, t183⟩, A670, H⟩ := H
       replace H : (if t183 = 0 then (if 0 ≤ (wrap64 ((x9_9.length : Int) - t182)) then (if (wrap64 ((x9_9.length : Int) - t182)) ≤ (x9_9.length : Int) then ((packet_part.f kj9 (x9_9.take ((wrap64 ((x9_9.length : Int) - t182)) : Int).toNat)).bind fun t189 => (some (true, t142, t143, t144, t145, t146, t147, t148, x155008_9, x155009_9, t189, t182, (x9_9.drop ((wrap64 ((x9_9.length : Int) - t182)) : Int).toNat), 0))) else (none)) else (none)) else (some (false, false, false, 0, 0, 0, 0, ([] : List Int), 0, ([] : List Int), ([] : List Int), 0, ([] : List Int), 5))) = some (r1, r2, r3, r4, r5, r6, r7, r8, r9, r10, r11, r12, r13, r14) := H
       have A67 := Aside0.mk A670
       clear A670
       by_cases c68 : t183 = 0
       ·rw [if_pos c68] at H
        have c68b0 : (t183 == 0) = true := beq_iff_eq.mpr c68
        have c68b1 : (t183 != 0) = false := bne_eq_false_iff_eq.mpr c68
        clear c68
        obtain ⟨ji69, hji69⟩ : ∃ j_ : Int, (wrap64 ((x9_9.length : Int) - t182)) = j_ := ⟨_, rfl⟩
        replace H : (if 0 ≤ (ji69) then (if (ji69) ≤ (x9_9.length : Int) then ((packet_part.f kj9 (x9_9.take ((ji69) : Int).toNat)).bind fun t189 => (some (true, t142, t143, t144, t145, t146, t147, t148, x155008_9, x155009_9, t189, t182, (x9_9.drop ((ji69) : Int).toNat), 0))) else (none)) else (none)) = some (r1, r2, r3, r4, r5, r6, r7, r8, r9, r10, r11, r12, r13, r14) := by first | (rw [hji69] at H; exact H) | (simp only [hji69] at H ⊢; exact H)
        (try rw [hji69] at A67)
        have hji69w : (IntKind.i64.wrap ((x9_9.length : Int) - t182)) = ji69 := (i64_w _).trans hji69
        by_cases c70 : 0 ≤ (ji69)
        ·rw [if_pos c70] at H
         have c70b0 := eq_true c70
         have c70b1 : decide (0 ≤ (ji69)) = true := decide_eq_true c70
         clear c70
         by_cases c71 : (ji69) ≤ (x9_9.length : Int)
         ·rw [if_pos c71] at H
          have c71b0 := eq_true c71
          have c71b1 : decide ((ji69) ≤ (x9_9.length : Int)) = true := decide_eq_true c71
          clear c71
          obtain ⟨y184, hy184⟩ : ∃ y_ : List Int, y_ = (x9_9.take ((ji69) : Int).toNat) := ⟨_, rfl⟩
          replace H : ((packet_part.f kj9 y184).bind fun t189 => (some (true, t142, t143, t144, t145, t146, t147, t148, x155008_9, x155009_9, t189, t182, (x9_9.drop ((ji69) : Int).toNat), 0))) = some (r1, r2, r3, r4, r5, r6, r7, r8, r9, r10, r11, r12, r13, r14) := by first | (rw [hy184]; with_reducible exact H) | (have H2_ := (Option.bind_some _ _).symm.trans H; rw [hy184]; with_reducible exact H2_) | (have H2_ := (Option.bind_some _ _).symm.trans H; with_reducible exact H2_) | with_reducible exact H | (rw [hy184]; exact H) | exact H
          have Ny184 := Aside0.mk hy184
          clear hy184
          replace H := Option.bind_eq_some_iff.mp H
          obtain ⟨t189, A720, H⟩ := H
          replace H : (some (true, t142, t143, t144, t145, t146, t147, t148, x155008_9, x155009_9, t189, t182, (x9_9.drop ((ji69) : Int).toNat), 0)) = some (r1, r2, r3, r4, r5, r6, r7, r8, r9, r10, r11, r12, r13, r14) := H
          have A72 := Aside0.mk A720
          clear A720
          have c73b0 := eq_true (of_decide_eq_true (by first | (with_reducible assumption) | assumption) : 0 ≤ (ji69))
          have c74b0 := eq_true (of_decide_eq_true (by first | (with_reducible assumption) | assumption) : (ji69) ≤ (x9_9.length : Int))
          obtain ⟨y192, hy192⟩ : ∃ y_ : List Int, y_ = (x9_9.drop ((ji69) : Int).toNat) := ⟨_, rfl⟩
          replace H : (some (true, t142, t143, t144, t145, t146, t147, t148, x155008_9, x155009_9, t189, t182, y192, 0)) = some (r1, r2, r3, r4, r5, r6, r7, r8, r9, r10, r11, r12, r13, r14) := by first | (rw [hy192]; with_reducible exact H) | (have H2_ := (Option.bind_some _ _).symm.trans H; rw [hy192]; with_reducible exact H2_) | (have H2_ := (Option.bind_some _ _).symm.trans H; with_reducible exact H2_) | with_reducible exact H | (rw [hy192]; exact H) | exact H
          have Ny192 := Aside0.mk hy192
          clear hy192
          simp only [Option.some.injEq, Prod.mk.injEq] at H
          obtain ⟨rfl, rfl, rfl, rfl, rfl, rfl, rfl, rfl, rfl, rfl, rfl, rfl, rfl, rfl⟩ := H
          have hnb75 := NB153_140.out
          have hnc75 := NB140_153.out
          have hnb76 := NB153_154.out
          have hnc76 := NB154_153.out
          obtain ⟨Z77_0, Z77_1, Z77_2, Z77_3, Z77_4, Z77_5, Z77_6, Z77_7, Y77_0, Y77_1, Y77_2, Y77_3, Y77_4, Y77_5, Y77_6, Y77_7⟩ := bc8 BK153.out
          obtain ⟨Ao78, co78, eo78⟩ := Kd.V_slice HO_9.out
          subst eo78
          try go_wp2_with (first | ((with_reducible refine gate_callee (f := 49) rfl ?_); refine goesL_ (some 80) rfl rfl Try.func49 (by kernel_rfl) rfl #[.slice Ao78 x9_9.length co78] rfl (by (try simp only [List.map_toArray, List.map_cons, List.map_nil]); first | done | rfl | (simp only [List.length_drop, List.length_take]; rfl)) ?_; (with_reducible refine (pad_Trail.calls _ _ x9_9 t182 t183 _ ?side1 ?side2 A67.out).mono ?_); (case side1 => exact cE (Kd.V_reads' HO_9.out).2.2); (case side2 => exact (Kd.V_reads' HO_9.out).2.1); rintro e w' ⟨rfl, ⟨nd, rfl⟩⟩; refine ⟨_, rfl, ?_⟩; (try (rw [drewN_self wc]; generalize hq_ : World.drewN wc _ = wc; replace HO_154007 : Aside0 (Kd.R (Kd.int .u32) 40 wc w.heap.size (fun k_ => (w.heap.size ≤ k_)) (.slice Ao16 t148.length co16) t148) := ⟨by rw [← hq_]; exact (pR HO_154007)⟩; replace HO_155007 : Aside0 (Kd.R (Kd.int .u32) 40 wc w.heap.size (fun k_ => (w.heap.size ≤ k_)) (.slice Ao16 t148.length co16) t148) := ⟨by rw [← hq_]; exact (pR HO_155007)⟩; replace HO_155009 : Aside0 (Kd.R (Kd.int .u8) 5 wc w.heap.size (fun k_ => (w.heap.size ≤ k_)) u155009 x155009_9) := ⟨by rw [← hq_]; exact (pR HO_155009)⟩; replace HO_9 : Aside0 (Kd.V (Kd.int .u8) 5 wc w.heap.size (fun k_ => (P0_ k_ ∨ w.heap.size ≤ k_) ∧ some k_ ≠ (.slice Ao16 t148.length co16 : Value).ownBlock ∧ some k_ ≠ (.slice Ao16 t148.length co16 : Value).ownBlock ∧ some k_ ≠ (u155009 : Value).ownBlock ∧ k_ ≠ gb140 ∧ k_ ≠ gb153 ∧ k_ ≠ gb154) (.slice Ao78 x9_9.length co78) x9_9) := ⟨by rw [← hq_]; exact (by (with_reducible repeat (first | apply Kd.V_alloc | apply Kd.V_drewN | apply Kd.V_drew)); exact HO_9.out)⟩; replace BK140 : Aside0 (wc.heap[gb140]? = some (.cells #[.bool x141000_9, .bool x141001_9, .bool x141002_9, .int .i64 x141003_9, .int .u16 x141004_9, .int .u32 x141005_9, .int .u32 x141006_9, .slice none 0 0, .int .u16 x141008_9, .slice none 0 0, .slice none 0 0, .int .i64 x141011_9] 45 (0, 0))) := ⟨by rw [← hq_]; exact (pk BK140)⟩; replace BK153 : Aside0 (wc.heap[gb153]? = some (.cells #[.bool true, .bool t142, .bool t143, .int .i64 t144, .int .u16 t145, .int .u32 t146, .int .u32 t147, .slice Ao16 t148.length co16] 43 (0, 0))) := ⟨by rw [← hq_]; exact (pk BK153)⟩; replace BK154 : Aside0 (wc.heap[gb154]? = some (.cells #[.bool true, .bool t142, .bool t143, .int .i64 t144, .int .u16 t145, .int .u32 t146, .int .u32 t147, .slice Ao16 t148.length co16, .int .u16 x155008_9, u155009, .slice none 0 0, .int .i64 0] 45 (0, 0))) := ⟨by rw [← hq_]; exact (pk BK154)⟩; replace HB : Aside0 (Below w.heap.size w wc) := ⟨by rw [← hq_]; exact (pB HB)⟩; clear hq_)); have hnb79 := NB154_140.out; have hnc79 := NB140_154.out; obtain ⟨Z80_0, Z80_1, Z80_2, Z80_3, Z80_4, Z80_5, Z80_6, Z80_7, Z80_8, Z80_9, Z80_10, Z80_11, Y80_0, Y80_1, Y80_2, Y80_3, Y80_4, Y80_5, Y80_6, Y80_7, Y80_8, Y80_9, Y80_10, Y80_11⟩ := bc12 BK154.out) | ((with_reducible refine gate_store (t := 3) (p := 87) rfl ?_); refine store_event (t := 3) (p := 87) (v := ?vo_w81) (w1 := (wc.setCell ⟨gb154, 11, none⟩ (.int .i64 t182))) ?hg ?ho ?hn ?hr ?_; (case ho => rfl); (case hg => rfl); (case hn => rfl); (case hr => first | (go_simp; done) | (go_simp; rfl)); intro w81 hw; replace HO_9 : Aside0 (Kd.V (Kd.int .u8) 5 w81 w.heap.size (fun k_ => (P0_ k_ ∨ w.heap.size ≤ k_) ∧ some k_ ≠ (.slice Ao16 t148.length co16 : Value).ownBlock ∧ some k_ ≠ (.slice Ao16 t148.length co16 : Value).ownBlock ∧ some k_ ≠ (u155009 : Value).ownBlock ∧ k_ ≠ gb140 ∧ k_ ≠ gb153 ∧ k_ ≠ gb154) (.slice Ao78 x9_9.length co78) x9_9) := ⟨Kd.V_mono (vfF hw (Kd.V_mono HO_9.out (fun k_ hk => (⟨hk, hk.2.2.2.2.2.2⟩ : _ ∧ k_ ≠ gb154)))) (fun _ hk => ⟨hk.1.1, ⟨hk.1.2.1, ⟨hk.1.2.2.1, ⟨hk.1.2.2.2.1, ⟨hk.1.2.2.2.2.1, ⟨hk.1.2.2.2.2.2.1, hk.1.2.2.2.2.2.2⟩⟩⟩⟩⟩⟩)⟩; replace HO_154007 := rfE hw HO_154007 BK154; replace HO_155007 := rfE hw HO_155007 BK154; replace HO_155009 := rfE hw HO_155009 BK154; replace BK140 := bfE hw BK140 NB140_154; replace BK153 := bfE hw BK153 NB153_154; replace BK154 : Aside0 (w81.heap[gb154]? = some (.cells #[.bool true, .bool t142, .bool t143, .int .i64 t144, .int .u16 t145, .int .u32 t146, .int .u32 t147, .slice Ao16 t148.length co16, .int .u16 x155008_9, u155009, .slice none 0 0, .int .i64 t182] 45 (0, 0))) := ⟨by rw [hw]; exact blk_put BK154.out 11 _ rfl⟩; replace HB := bsE hw HB GE154; clear hw; obtain ⟨Z82_0, Z82_1, Z82_2, Z82_3, Z82_4, Z82_5, Z82_6, Z82_7, Z82_8, Z82_9, Z82_10, Z82_11, Y82_0, Y82_1, Y82_2, Y82_3, Y82_4, Y82_5, Y82_6, Y82_7, Y82_8, Y82_9, Y82_10, Y82_11⟩ := bc12 BK154.out; have q83 : ((ji69) : Int) ≤ ((x9_9.length : Int) : Int) := of_decide_eq_true (by first | (with_reducible assumption) | assumption); obtain ⟨i083, hi083, _, hsz83, _⟩ := info_parts info5; have hroom83 : x9_9.length ≤ co78 := (Kd.V_reads' HO_9.out).2.1; have hC83 : Kd.F (Kd.int .u8) _ _ Ao78 x9_9.length x9_9 := (Kd.V_at (base := w.heap.size) HO_9.out).2.2; have hcut83 := cut_to (P := Try.prog) 22 5 .i64 Try.underlying22 hi083 Ao78 x9_9.length co78 (ji69) (oT (by first | (with_reducible assumption) | assumption)) q83 hroom83; have hr83 := Kd.F_take (m := ((ji69) : Int).toNat) hC83 (by omega); have hy83 : y184.length = ((ji69) : Int).toNat := (by rw [Ny184.out, List.length_take]; omega); rw [← Ny184.out] at hr83; rw [← hy83] at hcut83; have HO188 := Aside0.mk (show Kd.V (Kd.int .u8) 5 _ w.heap.size _ (.slice Ao78 y184.length co78) y184 from Kd.V_mk (by omega) hr83); have HC188 := Aside0.mk (show y184.length ≤ co78 from by omega); clear hr83 hC83 hroom83 hi083 hsz83; have KY83 := Aside0.mk hy83; clear hy83; replace q83 := eq_true q83) | ((with_reducible refine gate_callee (f := 48) rfl ?_); refine goesL_ (some 96) rfl rfl Try.func48 (by kernel_rfl) rfl #[.slice Ao78 y184.length co78] rfl (by (try simp only [List.map_toArray, List.map_cons, List.map_nil]); first | done | rfl | (simp only [List.length_drop, List.length_take]; rfl)) ?_; (with_reducible refine (packet_part.calls kj9 (fun k_ => ((P0_ k_ ∨ w.heap.size ≤ k_) ∧ (some k_ ≠ (.slice Ao16 t148.length co16 : Value).ownBlock ∧ (some k_ ≠ (.slice Ao16 t148.length co16 : Value).ownBlock ∧ (some k_ ≠ (u155009 : Value).ownBlock ∧ (k_ ≠ gb140 ∧ (k_ ≠ gb153 ∧ k_ ≠ gb154))))))) _ _ y184 t189 _ ?side1 A72.out).mono ?_); (case side1 => exact HO188.out); rintro e w84 ⟨v190, rfl, ho0, hb⟩; refine ⟨_, rfl, ?_⟩; replace HO_9 := Aside0.mk (Kd.V_elder' (by (with_reducible repeat (first | apply Kd.V_alloc | apply Kd.V_drewN | apply Kd.V_drew)); exact HO_9.out) (Kd.R_base ho0) hb); replace HO_154007 := rbE HO_154007 hb; replace HO_155007 := rbE HO_155007 hb; have n3_ := Aside0.mk (Kd.R_elder' (pR HO_155009) (Kd.R_base ho0) hb); replace HO188 := Aside0.mk (Kd.V_elder' (by (with_reducible repeat (first | apply Kd.V_alloc | apply Kd.V_drewN | apply Kd.V_drew)); exact HO188.out) (Kd.R_base ho0) hb); have HO191 := Aside0.mk (Kd.R_lower (Kd.R_new' (Kd.R_newM (M := fun k_ => (w.heap.size ≤ k_)) (Kd.R_mono (ok' := fun k_ => True) ho0 (fun _ hk_ => trivial)) (below_size (pB HB)) (fun k_ h_ => h_)) (Kd.R_lt (pR HO_155009))) (below_size (pB HB))); replace BK140 := bbE BK140 hb; replace BK153 := bbE BK153 hb; replace BK154 := bbE BK154 hb; replace HB := bstE HB hb; clear HO_155009; have HO_155009 := n3_; clear n3_; (try clear hb); (try clear hb2); (try clear hk); (try clear hi); (try clear ho0); obtain ⟨Ao85, co85, eo85⟩ := Kd.R_slice HO191.out; subst eo85; obtain ⟨Z86_0, Z86_1, Z86_2, Z86_3, Z86_4, Z86_5, Z86_6, Z86_7, Z86_8, Z86_9, Z86_10, Z86_11, Y86_0, Y86_1, Y86_2, Y86_3, Y86_4, Y86_5, Y86_6, Y86_7, Y86_8, Y86_9, Y86_10, Y86_11⟩ := bc12 BK154.out) | ((with_reducible refine gate_store (t := 22) (p := 97) rfl ?_); refine store_event (t := 22) (p := 97) (v := ?vo_w87) (w1 := (w84.setCell ⟨gb154, 10, none⟩ (.slice Ao85 t189.length co85))) ?hg ?ho ?hn ?hr ?_; (case ho => rfl); (case hg => rfl); (case hn => rfl); (case hr => first | (go_simp; done) | (go_simp; rfl)); intro w87 hw; replace HO_9 : Aside0 (Kd.V (Kd.int .u8) 5 w87 w.heap.size (fun k_ => (P0_ k_ ∨ w.heap.size ≤ k_) ∧ some k_ ≠ (.slice Ao16 t148.length co16 : Value).ownBlock ∧ some k_ ≠ (.slice Ao16 t148.length co16 : Value).ownBlock ∧ some k_ ≠ (u155009 : Value).ownBlock ∧ some k_ ≠ (.slice Ao85 t189.length co85 : Value).ownBlock ∧ k_ ≠ gb140 ∧ k_ ≠ gb153 ∧ k_ ≠ gb154) (.slice Ao78 x9_9.length co78) x9_9) := ⟨Kd.V_mono (vfF hw (Kd.V_mono HO_9.out (fun k_ hk => (⟨hk, hk.1.2.2.2.2.2.2⟩ : _ ∧ k_ ≠ gb154)))) (fun _ hk => ⟨hk.1.1.1, ⟨hk.1.1.2.1, ⟨hk.1.1.2.2.1, ⟨hk.1.1.2.2.2.1, ⟨hk.1.2, ⟨hk.1.1.2.2.2.2.1, ⟨hk.1.1.2.2.2.2.2.1, hk.1.1.2.2.2.2.2.2⟩⟩⟩⟩⟩⟩⟩)⟩; replace HO_154007 := rfE hw HO_154007 BK154; replace HO_155007 := rfE hw HO_155007 BK154; replace HO_155009 := rfE hw HO_155009 BK154; replace HO188 : Aside0 (Kd.V (Kd.int .u8) 5 w87 w.heap.size (fun k_ => (P0_ k_ ∨ w.heap.size ≤ k_) ∧ some k_ ≠ (.slice Ao16 t148.length co16 : Value).ownBlock ∧ some k_ ≠ (.slice Ao16 t148.length co16 : Value).ownBlock ∧ some k_ ≠ (u155009 : Value).ownBlock ∧ some k_ ≠ (.slice Ao85 t189.length co85 : Value).ownBlock ∧ k_ ≠ gb140 ∧ k_ ≠ gb153 ∧ k_ ≠ gb154) (.slice Ao78 y184.length co78) y184) := ⟨Kd.V_mono (vfF hw (Kd.V_mono HO188.out (fun k_ hk => (⟨hk, hk.1.2.2.2.2.2.2⟩ : _ ∧ k_ ≠ gb154)))) (fun _ hk => ⟨hk.1.1.1, ⟨hk.1.1.2.1, ⟨hk.1.1.2.2.1, ⟨hk.1.1.2.2.2.1, ⟨hk.1.2, ⟨hk.1.1.2.2.2.2.1, ⟨hk.1.1.2.2.2.2.2.1, hk.1.1.2.2.2.2.2.2⟩⟩⟩⟩⟩⟩⟩)⟩; replace HO191 : Aside0 (Kd.R (Kd.int .u8) 5 w87 w.heap.size (fun k_ => (w.heap.size ≤ k_) ∧ some k_ ≠ (u155009 : Value).ownBlock) (.slice Ao85 t189.length co85) t189) := ⟨Kd.R_mono (rfF hw HO191 BK154) (fun _ hk => ⟨hk.1.1.1, hk.1.2⟩)⟩; replace BK140 := bfE hw BK140 NB140_154; replace BK153 := bfE hw BK153 NB153_154; replace BK154 : Aside0 (w87.heap[gb154]? = some (.cells #[.bool true, .bool t142, .bool t143, .int .i64 t144, .int .u16 t145, .int .u32 t146, .int .u32 t147, .slice Ao16 t148.length co16, .int .u16 x155008_9, u155009, .slice Ao85 t189.length co85, .int .i64 t182] 45 (0, 0))) := ⟨by rw [hw]; exact blk_put BK154.out 10 _ rfl⟩; replace HB := bsE hw HB GE154; clear hw))
          replace HO_9 := Aside0.mk (Kd.V_drew HO_9.out)
          replace HO_154007 := Aside0.mk (Kd.R_drew HO_154007.out)
          replace HO_155007 := Aside0.mk (Kd.R_drew HO_155007.out)
          replace HO_155009 := Aside0.mk (Kd.R_drew HO_155009.out)
          replace HO188 := Aside0.mk (Kd.V_drew HO188.out)
          replace HO191 := Aside0.mk (Kd.R_drew HO191.out)
          replace BK140 := Aside0.mk (blk_drew BK140.out)
          replace BK153 := Aside0.mk (blk_drew BK153.out)
          replace BK154 := Aside0.mk (blk_drew BK154.out)
          replace HB := Aside0.mk (below_drew1 HB.out)
          have q89 : ((ji69) : Int) ≤ ((x9_9.length : Int) : Int) := of_decide_eq_true (by first | (with_reducible assumption) | assumption)
          obtain ⟨i089, hi089, _, hsz89, _⟩ := info_parts info5
          have hroom89 : x9_9.length ≤ co78 := (Kd.V_reads' HO_9.out).2.1
          have hC89 : Kd.F (Kd.int .u8) _ _ Ao78 x9_9.length x9_9 := (Kd.V_at (base := w.heap.size) HO_9.out).2.2
          have q089 : (0 : Int) ≤ ((ji69) : Int) := of_decide_eq_true (by first | (with_reducible assumption) | assumption)
          have hcut89 := cut_from (P := Try.prog) 22 5 .i64 Try.underlying22 hi089 1 hsz89 Ao78 x9_9.length co78 (ji69) q089 q89
          have hr89 := Kd.F_cut (m := ((ji69) : Int).toNat) (c := co78) hC89 (by omega) hroom89
          obtain ⟨A89, hA89⟩ : ∃ A1, A1 = (if co78 = ((ji69) : Int).toNat then Ao78 else (Ao78 : Option Addr).map (·.add (((ji69) : Int).toNat * 1))) := ⟨_, rfl⟩
          obtain ⟨c89, hc89⟩ : ∃ c1, c1 = co78 - ((ji69) : Int).toNat := ⟨_, rfl⟩
          have hy89 : y192.length = x9_9.length - ((ji69) : Int).toNat := (by rw [Ny192.out, List.length_drop] <;> omega)
          rw [show (x9_9).drop ((ji69) : Int).toNat = y192 from Ny192.out.symm] at hr89
          replace hr89 : Kd.F (Kd.int .u8) _ _ A89 y192.length y192 := (by rw [hA89]; exact hr89)
          rw [← hy89, ← hA89, ← hc89] at hcut89
          have HO196 := Aside0.mk (show Kd.V (Kd.int .u8) 5 _ w.heap.size _ (.slice A89 y192.length c89) y192 from Kd.V_mk (by rw [hy89, hc89]; exact Nat.sub_le_sub_right hroom89 _) hr89)
          have HC196 := Aside0.mk (show y192.length ≤ c89 from by rw [hy89, hc89]; exact Nat.sub_le_sub_right hroom89 _)
          clear hr89 hC89 hroom89 hi089 hsz89 hc89
          have KY89 := Aside0.mk hy89
          have KA89 := Aside0.mk hA89
          clear hy89 hA89
          replace q89 := eq_true q89
          obtain ⟨Ao99, co99, eo99⟩ := Kd.R_slice HO_155009.out
          (first | subst eo99 | (injection eo99 with f1_ f2_ f3_; have f4_ := f1_.symm; have f5_ := f3_.symm; clear f1_ f2_ f3_; subst f4_; subst f5_))
          refine start_ (n := 7) (S := fun w' => w'.cell? ⟨gb154, 0, none⟩ = some (.bool true) ∧ w'.cell? ⟨gb154, 1, none⟩ = some (.bool t142) ∧ w'.cell? ⟨gb154, 2, none⟩ = some (.bool t143) ∧ w'.cell? ⟨gb154, 3, none⟩ = some (.int .i64 t144) ∧ w'.cell? ⟨gb154, 4, none⟩ = some (.int .u16 t145) ∧ w'.cell? ⟨gb154, 5, none⟩ = some (.int .u32 t146) ∧ w'.cell? ⟨gb154, 6, none⟩ = some (.int .u32 t147) ∧ w'.cell? ⟨gb154, 7, none⟩ = some (.slice Ao16 t148.length co16) ∧ w'.cell? ⟨gb154, 8, none⟩ = some (.int .u16 x155008_9) ∧ w'.cell? ⟨gb154, 9, none⟩ = some (.slice Ao99 x155009_9.length co99) ∧ w'.cell? ⟨gb154, 10, none⟩ = some (.slice Ao85 t189.length co85) ∧ w'.cell? ⟨gb154, 11, none⟩ = some (.int .i64 t182)) (ds := []) #[false, false, false, false, false, false, false] (by kernel_rfl) rfl rfl ⟨(blk_cell BK154.out 0).trans rfl, (blk_cell BK154.out 1).trans rfl, (blk_cell BK154.out 2).trans rfl, (blk_cell BK154.out 3).trans rfl, (blk_cell BK154.out 4).trans rfl, (blk_cell BK154.out 5).trans rfl, (blk_cell BK154.out 6).trans rfl, (blk_cell BK154.out 7).trans rfl, (blk_cell BK154.out 8).trans rfl, (blk_cell BK154.out 9).trans rfl, (blk_cell BK154.out 10).trans rfl, (blk_cell BK154.out 11).trans rfl⟩ (fun hHeld => ?_)
          generalize w87.drew = w88 at HO_9 HO_154007 HO_155007 HO_155009 HO188 HO191 BK140 BK153 BK154 HB HO196 hHeld ⊢
          refine pure_ (i := 1) (N := some 99) (v := ?_) (a' := ?_) #[false, true, false, false, false, false, false] rfl rfl (by kernel_rfl) (fun _ _ _ h => h) (Or.inl ⟨by rfl, ?_⟩) ?_ ?_
          rotate_left
          ·intro w'
           go_simp
           with_reducible rfl
          rotate_left
          ·simp only [Act.put, List.setIfInBounds_toArray, List.set_cons_zero, List.set_cons_succ, i64_w, i32_w]
           rfl
          refine pure_ (i := 2) (N := some 100) (v := ?_) (a' := ?_) #[false, true, true, false, false, false, false] rfl rfl (by kernel_rfl) (fun _ _ _ h => h) (Or.inl ⟨by rfl, ?_⟩) ?_ ?_
          rotate_left
          ·intro w'
           go_simp
           with_reducible rfl
          rotate_left
          ·simp only [Act.put, List.setIfInBounds_toArray, List.set_cons_zero, List.set_cons_succ, i64_w, i32_w]
           rfl
          refine pure_ (i := 3) (N := some 101) (v := ?_) (a' := ?_) #[false, true, true, true, false, false, false] rfl rfl (by kernel_rfl) (fun _ _ _ h => h) (Or.inl ⟨by rfl, ?_⟩) ?_ ?_
          rotate_left
          ·intro w'
           go_simp
           with_reducible rfl
          rotate_left
          ·simp only [Act.put, List.setIfInBounds_toArray, List.set_cons_zero, List.set_cons_succ, i64_w, i32_w]
           rfl
          refine take_ (i := 0) (N := some 98) (v := ?_) (a' := ?_) #[true, true, true, true, false, false, false] rfl rfl (by kernel_rfl) (fun _ _ _ h => h) (Or.inl ⟨by rfl, ?_⟩) hHeld ?_ ?_
          rotate_left
          ·rintro w' ⟨s0, s1, s2, s3, s4, s5, s6, s7, s8, s9, s10, s11⟩
           go_simp
           with_reducible rfl
          rotate_left
          ·simp only [Act.put, List.setIfInBounds_toArray, List.set_cons_zero, List.set_cons_succ, i64_w, i32_w]
           rfl
          refine one_ (i := 4) (N := none) #[true, true, true, true, true, false, false] rfl rfl (by kernel_rfl) (by decide) (fun K hK => ?_)
          have hs90 : w88.cell? ⟨gb140, 0, none⟩ = some (.bool x141000_9) := (blk_cell BK140.out 0).trans rfl
          have hfs90 := blk_frozen BK140.out 0
          have hns90_1 := NB153_140.out
          have hns90_2 := NB154_140.out
          have hms90_1 := NB140_153.out
          have hms90_2 := NB140_154.out
          have hs91 : w88.cell? ⟨gb140, 1, none⟩ = some (.bool x141001_9) := (blk_cell BK140.out 1).trans rfl
          have hfs91 := blk_frozen BK140.out 1
          have hns91_1 := NB153_140.out
          have hns91_2 := NB154_140.out
          have hms91_1 := NB140_153.out
          have hms91_2 := NB140_154.out
          have hs92 : w88.cell? ⟨gb140, 2, none⟩ = some (.bool x141002_9) := (blk_cell BK140.out 2).trans rfl
          have hfs92 := blk_frozen BK140.out 2
          have hns92_1 := NB153_140.out
          have hns92_2 := NB154_140.out
          have hms92_1 := NB140_153.out
          have hms92_2 := NB140_154.out
          have hs93 : w88.cell? ⟨gb140, 3, none⟩ = some (.int .i64 x141003_9) := (blk_cell BK140.out 3).trans rfl
          have hfs93 := blk_frozen BK140.out 3
          have hns93_1 := NB153_140.out
          have hns93_2 := NB154_140.out
          have hms93_1 := NB140_153.out
          have hms93_2 := NB140_154.out
          have hs94 : w88.cell? ⟨gb140, 4, none⟩ = some (.int .u16 x141004_9) := (blk_cell BK140.out 4).trans rfl
          have hfs94 := blk_frozen BK140.out 4
          have hns94_1 := NB153_140.out
          have hns94_2 := NB154_140.out
          have hms94_1 := NB140_153.out
          have hms94_2 := NB140_154.out
          have hs95 : w88.cell? ⟨gb140, 5, none⟩ = some (.int .u32 x141005_9) := (blk_cell BK140.out 5).trans rfl
          have hfs95 := blk_frozen BK140.out 5
          have hns95_1 := NB153_140.out
          have hns95_2 := NB154_140.out
          have hms95_1 := NB140_153.out
          have hms95_2 := NB140_154.out
          have hs96 : w88.cell? ⟨gb140, 6, none⟩ = some (.int .u32 x141006_9) := (blk_cell BK140.out 6).trans rfl
          have hfs96 := blk_frozen BK140.out 6
          have hns96_1 := NB153_140.out
          have hns96_2 := NB154_140.out
          have hms96_1 := NB140_153.out
          have hms96_2 := NB140_154.out
          have hs97 : w88.cell? ⟨gb140, 7, none⟩ = some (.slice none 0 0) := (blk_cell BK140.out 7).trans rfl
          have hfs97 := blk_frozen BK140.out 7
          have hns97_1 := NB153_140.out
          have hns97_2 := NB154_140.out
          have hms97_1 := NB140_153.out
          have hms97_2 := NB140_154.out
          have hs98 : w88.cell? ⟨gb140, 8, none⟩ = some (.int .u16 x141008_9) := (blk_cell BK140.out 8).trans rfl
          have hfs98 := blk_frozen BK140.out 8
          have hns98_1 := NB153_140.out
          have hns98_2 := NB154_140.out
          have hms98_1 := NB140_153.out
          have hms98_2 := NB140_154.out
          have hs100 : w88.cell? ⟨gb140, 9, none⟩ = some (.slice none 0 0) := (blk_cell BK140.out 9).trans rfl
          have hfs100 := blk_frozen BK140.out 9
          have hns100_1 := NB153_140.out
          have hns100_2 := NB154_140.out
          have hms100_1 := NB140_153.out
          have hms100_2 := NB140_154.out
          have hs101 : w88.cell? ⟨gb140, 10, none⟩ = some (.slice none 0 0) := (blk_cell BK140.out 10).trans rfl
          have hfs101 := blk_frozen BK140.out 10
          have hns101_1 := NB153_140.out
          have hns101_2 := NB154_140.out
          have hms101_1 := NB140_153.out
          have hms101_2 := NB140_154.out
          have hs102 : w88.cell? ⟨gb140, 11, none⟩ = some (.int .i64 x141011_9) := (blk_cell BK140.out 11).trans rfl
          have hfs102 := blk_frozen BK140.out 11
          have hns102_1 := NB153_140.out
          have hns102_2 := NB154_140.out
          have hms102_1 := NB140_153.out
          have hms102_2 := NB140_154.out
          refine skip_ (w1 := ?_) (by rfl) rfl ?_ ?_
          rotate_left
          ·go_simp
           rfl
          refine hK.out _ _ ⟨(by (iterate 12 refine (cell_far (p := ⟨gb140, _, none⟩) NB154_140.out _).trans ?_); exact hHeld.1), (by (iterate 12 refine (cell_far (p := ⟨gb140, _, none⟩) NB154_140.out _).trans ?_); exact hHeld.2.1), (by (iterate 12 refine (cell_far (p := ⟨gb140, _, none⟩) NB154_140.out _).trans ?_); exact hHeld.2.2.1), (by (iterate 12 refine (cell_far (p := ⟨gb140, _, none⟩) NB154_140.out _).trans ?_); exact hHeld.2.2.2.1), (by (iterate 12 refine (cell_far (p := ⟨gb140, _, none⟩) NB154_140.out _).trans ?_); exact hHeld.2.2.2.2.1), (by (iterate 12 refine (cell_far (p := ⟨gb140, _, none⟩) NB154_140.out _).trans ?_); exact hHeld.2.2.2.2.2.1), (by (iterate 12 refine (cell_far (p := ⟨gb140, _, none⟩) NB154_140.out _).trans ?_); exact hHeld.2.2.2.2.2.2.1), (by (iterate 12 refine (cell_far (p := ⟨gb140, _, none⟩) NB154_140.out _).trans ?_); exact hHeld.2.2.2.2.2.2.2.1), (by (iterate 12 refine (cell_far (p := ⟨gb140, _, none⟩) NB154_140.out _).trans ?_); exact hHeld.2.2.2.2.2.2.2.2.1), (by (iterate 12 refine (cell_far (p := ⟨gb140, _, none⟩) NB154_140.out _).trans ?_); exact hHeld.2.2.2.2.2.2.2.2.2.1), (by (iterate 12 refine (cell_far (p := ⟨gb140, _, none⟩) NB154_140.out _).trans ?_); exact hHeld.2.2.2.2.2.2.2.2.2.2.1), (by (iterate 12 refine (cell_far (p := ⟨gb140, _, none⟩) NB154_140.out _).trans ?_); exact hHeld.2.2.2.2.2.2.2.2.2.2.2)⟩ (fun hHeld => ?_)
          clear hK K
          refine pure_ (i := 5) (N := some 3) (v := ?_) (a' := ?_) #[true, true, true, true, true, true, false] rfl rfl (by kernel_rfl) (fun _ _ _ h => h) (Or.inl ⟨by rfl, ?_⟩) ?_ ?_
          rotate_left
          ·intro w'
           go_simp
           with_reducible rfl
          rotate_left
          ·simp only [Act.put, List.setIfInBounds_toArray, List.set_cons_zero, List.set_cons_succ, i64_w, i32_w]
           rfl
          refine pure_ (i := 6) (N := some 4) (v := ?_) (a' := ?_) #[true, true, true, true, true, true, true] rfl rfl (by kernel_rfl) (fun _ _ _ h => h) (Or.inl ⟨by rfl, ?_⟩) ?_ ?_
          rotate_left
          ·intro w'
           go_simp
           with_reducible rfl
          rotate_left
          ·simp only [Act.put, List.setIfInBounds_toArray, List.set_cons_zero, List.set_cons_succ, i64_w, i32_w]
           rfl
          refine done_ (by kernel_rfl) ?_
          try go_wp2
          refine bodyPost_ret (results_ctt rfl _ _ gb140 45 #[.bool true, .bool t142, .bool t143, .int .i64 t144, .int .u16 t145, .int .u32 t146, .int .u32 t147, .slice Ao16 t148.length co16, .int .u16 x155008_9, .slice Ao99 x155009_9.length co99, .slice Ao85 t189.length co85, .int .i64 t182] (0, 0) _ rfl (by (with_reducible repeat (first | refine blk_drewN ?_ _ | refine blk_drew ?_ | refine blk_alloc ?_ _)); apply puts12; (with_reducible repeat (first | refine blk_drewN ?_ _ | refine blk_drew ?_ | refine blk_alloc ?_ _)); exact BK140.out) Try.underlying45 rfl (by kernel_rfl)) rfl ?_
          exact ⟨_, _, _, _, by first | rfl | (simp [errW_none, errW_some] <;> rfl) | (simp only [← hji69]; first | rfl | (simp [errW_none, errW_some] <;> rfl)) | (simp [*, errW_none, errW_some] <;> rfl), by (with_reducible repeat (first | apply Kd.R_alloc | apply Kd.R_drewN | apply Kd.R_drew)); exact Kd.R_mono (Kd.R_far (p := ⟨gb140, 11, none⟩) (Kd.R_far (p := ⟨gb140, 10, none⟩) (Kd.R_far (p := ⟨gb140, 9, none⟩) (Kd.R_far (p := ⟨gb140, 8, none⟩) (Kd.R_far (p := ⟨gb140, 7, none⟩) (Kd.R_far (p := ⟨gb140, 6, none⟩) (Kd.R_far (p := ⟨gb140, 5, none⟩) (Kd.R_far (p := ⟨gb140, 4, none⟩) (Kd.R_far (p := ⟨gb140, 3, none⟩) (Kd.R_far (p := ⟨gb140, 2, none⟩) (Kd.R_far (p := ⟨gb140, 1, none⟩) (Kd.R_far (p := ⟨gb140, 0, none⟩) (Kd.R_types HO_155007.out BK140.out (by decide)) (fun _ hk => hk.2) (.bool true)) (fun _ hk => hk.2) (.bool t142)) (fun _ hk => hk.2) (.bool t143)) (fun _ hk => hk.2) (.int .i64 t144)) (fun _ hk => hk.2) (.int .u16 t145)) (fun _ hk => hk.2) (.int .u32 t146)) (fun _ hk => hk.2) (.int .u32 t147)) (fun _ hk => hk.2) (.slice Ao16 t148.length co16)) (fun _ hk => hk.2) (.int .u16 x155008_9)) (fun _ hk => hk.2) (.slice Ao99 x155009_9.length co99)) (fun _ hk => hk.2) (.slice Ao85 t189.length co85)) (fun _ hk => hk.2) (.int .i64 t182)) (fun _ hk => hk.1), by (with_reducible repeat (first | apply Kd.R_alloc | apply Kd.R_drewN | apply Kd.R_drew)); exact Kd.R_mono (Kd.R_far (p := ⟨gb140, 11, none⟩) (Kd.R_far (p := ⟨gb140, 10, none⟩) (Kd.R_far (p := ⟨gb140, 9, none⟩) (Kd.R_far (p := ⟨gb140, 8, none⟩) (Kd.R_far (p := ⟨gb140, 7, none⟩) (Kd.R_far (p := ⟨gb140, 6, none⟩) (Kd.R_far (p := ⟨gb140, 5, none⟩) (Kd.R_far (p := ⟨gb140, 4, none⟩) (Kd.R_far (p := ⟨gb140, 3, none⟩) (Kd.R_far (p := ⟨gb140, 2, none⟩) (Kd.R_far (p := ⟨gb140, 1, none⟩) (Kd.R_far (p := ⟨gb140, 0, none⟩) (Kd.R_types HO_155009.out BK140.out (by decide)) (fun _ hk => hk.2) (.bool true)) (fun _ hk => hk.2) (.bool t142)) (fun _ hk => hk.2) (.bool t143)) (fun _ hk => hk.2) (.int .i64 t144)) (fun _ hk => hk.2) (.int .u16 t145)) (fun _ hk => hk.2) (.int .u32 t146)) (fun _ hk => hk.2) (.int .u32 t147)) (fun _ hk => hk.2) (.slice Ao16 t148.length co16)) (fun _ hk => hk.2) (.int .u16 x155008_9)) (fun _ hk => hk.2) (.slice Ao99 x155009_9.length co99)) (fun _ hk => hk.2) (.slice Ao85 t189.length co85)) (fun _ hk => hk.2) (.int .i64 t182)) (fun _ hk => ⟨hk.1.1, hk.1.2⟩), by (with_reducible repeat (first | apply Kd.R_alloc | apply Kd.R_drewN | apply Kd.R_drew)); exact Kd.R_mono (Kd.R_far (p := ⟨gb140, 11, none⟩) (Kd.R_far (p := ⟨gb140, 10, none⟩) (Kd.R_far (p := ⟨gb140, 9, none⟩) (Kd.R_far (p := ⟨gb140, 8, none⟩) (Kd.R_far (p := ⟨gb140, 7, none⟩) (Kd.R_far (p := ⟨gb140, 6, none⟩) (Kd.R_far (p := ⟨gb140, 5, none⟩) (Kd.R_far (p := ⟨gb140, 4, none⟩) (Kd.R_far (p := ⟨gb140, 3, none⟩) (Kd.R_far (p := ⟨gb140, 2, none⟩) (Kd.R_far (p := ⟨gb140, 1, none⟩) (Kd.R_far (p := ⟨gb140, 0, none⟩) (Kd.R_types HO191.out BK140.out (by decide)) (fun _ hk => hk.2) (.bool true)) (fun _ hk => hk.2) (.bool t142)) (fun _ hk => hk.2) (.bool t143)) (fun _ hk => hk.2) (.int .i64 t144)) (fun _ hk => hk.2) (.int .u16 t145)) (fun _ hk => hk.2) (.int .u32 t146)) (fun _ hk => hk.2) (.int .u32 t147)) (fun _ hk => hk.2) (.slice Ao16 t148.length co16)) (fun _ hk => hk.2) (.int .u16 x155008_9)) (fun _ hk => hk.2) (.slice Ao99 x155009_9.length co99)) (fun _ hk => hk.2) (.slice Ao85 t189.length co85)) (fun _ hk => hk.2) (.int .i64 t182)) (fun _ hk => ⟨hk.1.1, hk.1.2⟩), by (with_reducible repeat (first | apply Kd.V_alloc | apply Kd.V_drewN | apply Kd.V_drew)); exact Kd.V_mono (Kd.V_far (p := ⟨gb140, 11, none⟩) (Kd.V_far (p := ⟨gb140, 10, none⟩) (Kd.V_far (p := ⟨gb140, 9, none⟩) (Kd.V_far (p := ⟨gb140, 8, none⟩) (Kd.V_far (p := ⟨gb140, 7, none⟩) (Kd.V_far (p := ⟨gb140, 6, none⟩) (Kd.V_far (p := ⟨gb140, 5, none⟩) (Kd.V_far (p := ⟨gb140, 4, none⟩) (Kd.V_far (p := ⟨gb140, 3, none⟩) (Kd.V_far (p := ⟨gb140, 2, none⟩) (Kd.V_far (p := ⟨gb140, 1, none⟩) (Kd.V_far (p := ⟨gb140, 0, none⟩) (Kd.V_mono HO196.out (fun k_ hk => (⟨hk, hk.2.2.2.2.2.1⟩ : _ ∧ k_ ≠ gb140))) (fun _ hk => hk.2) (.bool true)) (fun _ hk => hk.2) (.bool t142)) (fun _ hk => hk.2) (.bool t143)) (fun _ hk => hk.2) (.int .i64 t144)) (fun _ hk => hk.2) (.int .u16 t145)) (fun _ hk => hk.2) (.int .u32 t146)) (fun _ hk => hk.2) (.int .u32 t147)) (fun _ hk => hk.2) (.slice Ao16 t148.length co16)) (fun _ hk => hk.2) (.int .u16 x155008_9)) (fun _ hk => hk.2) (.slice Ao99 x155009_9.length co99)) (fun _ hk => hk.2) (.slice Ao85 t189.length co85)) (fun _ hk => hk.2) (.int .i64 t182)) (fun _ hk => ⟨hk.1.1, ⟨hk.1.2.2.1, ⟨hk.1.2.2.2.1, hk.1.2.2.2.2.1⟩⟩⟩), by repeat (first | (with_reducible first | exact HB.out | apply below_alloc | apply pw_below_drewN | apply below_drew1 | refine below_set ?_ GE140.out | refine below_set ?_ GE153.out | refine below_set ?_ GE154.out) | exact HB.out)⟩
         rw [if_neg c71] at H
         exact absurd H (by simp)
        rw [if_neg c70] at H
        exact absurd H (by simp)
       rw [if_neg c68] at H
       have c68b0 : (t183 == 0) = false := beq_eq_false_iff_ne.mpr c68
       have c68b1 : (t183 != 0) = true := bne_iff_ne.mpr c68
       simp only [Option.some.injEq, Prod.mk.injEq] at H
       obtain ⟨rfl, rfl, rfl, rfl, rfl, rfl, rfl, rfl, rfl, rfl, rfl, rfl, rfl, rfl⟩ := H
       have hnb103 := NB153_140.out
       have hnc103 := NB140_153.out
       have hnb104 := NB153_154.out
       have hnc104 := NB154_153.out
       obtain ⟨Z105_0, Z105_1, Z105_2, Z105_3, Z105_4, Z105_5, Z105_6, Z105_7, Y105_0, Y105_1, Y105_2, Y105_3, Y105_4, Y105_5, Y105_6, Y105_7⟩ := bc8 BK153.out
       obtain ⟨Ao106, co106, eo106⟩ := Kd.V_slice HO_9.out
       subst eo106
       go_wp2_with (first | ((with_reducible refine gate_callee (f := 49) rfl ?_); refine goesL_ (some 80) rfl rfl Try.func49 (by kernel_rfl) rfl #[.slice Ao106 x9_9.length co106] rfl (by (try simp only [List.map_toArray, List.map_cons, List.map_nil]); first | done | rfl | (simp only [List.length_drop, List.length_take]; rfl)) ?_; (with_reducible refine (pad_Trail.calls _ _ x9_9 t182 t183 _ ?side1 ?side2 A67.out).mono ?_); (case side1 => exact cE (Kd.V_reads' HO_9.out).2.2); (case side2 => exact (Kd.V_reads' HO_9.out).2.1); rintro e w' ⟨rfl, ⟨nd, rfl⟩⟩; refine ⟨_, rfl, ?_⟩; (try (rw [drewN_self wc]; generalize hq_ : World.drewN wc _ = wc; replace HO_154007 : Aside0 (Kd.R (Kd.int .u32) 40 wc w.heap.size (fun k_ => (w.heap.size ≤ k_)) (.slice Ao16 t148.length co16) t148) := ⟨by rw [← hq_]; exact (pR HO_154007)⟩; replace HO_155007 : Aside0 (Kd.R (Kd.int .u32) 40 wc w.heap.size (fun k_ => (w.heap.size ≤ k_)) (.slice Ao16 t148.length co16) t148) := ⟨by rw [← hq_]; exact (pR HO_155007)⟩; replace HO_155009 : Aside0 (Kd.R (Kd.int .u8) 5 wc w.heap.size (fun k_ => (w.heap.size ≤ k_)) u155009 x155009_9) := ⟨by rw [← hq_]; exact (pR HO_155009)⟩; replace HO_9 : Aside0 (Kd.V (Kd.int .u8) 5 wc w.heap.size (fun k_ => (P0_ k_ ∨ w.heap.size ≤ k_) ∧ some k_ ≠ (.slice Ao16 t148.length co16 : Value).ownBlock ∧ some k_ ≠ (.slice Ao16 t148.length co16 : Value).ownBlock ∧ some k_ ≠ (u155009 : Value).ownBlock ∧ k_ ≠ gb140 ∧ k_ ≠ gb153 ∧ k_ ≠ gb154) (.slice Ao106 x9_9.length co106) x9_9) := ⟨by rw [← hq_]; exact (by (with_reducible repeat (first | apply Kd.V_alloc | apply Kd.V_drewN | apply Kd.V_drew)); exact HO_9.out)⟩; replace BK140 : Aside0 (wc.heap[gb140]? = some (.cells #[.bool x141000_9, .bool x141001_9, .bool x141002_9, .int .i64 x141003_9, .int .u16 x141004_9, .int .u32 x141005_9, .int .u32 x141006_9, .slice none 0 0, .int .u16 x141008_9, .slice none 0 0, .slice none 0 0, .int .i64 x141011_9] 45 (0, 0))) := ⟨by rw [← hq_]; exact (pk BK140)⟩; replace BK153 : Aside0 (wc.heap[gb153]? = some (.cells #[.bool true, .bool t142, .bool t143, .int .i64 t144, .int .u16 t145, .int .u32 t146, .int .u32 t147, .slice Ao16 t148.length co16] 43 (0, 0))) := ⟨by rw [← hq_]; exact (pk BK153)⟩; replace BK154 : Aside0 (wc.heap[gb154]? = some (.cells #[.bool true, .bool t142, .bool t143, .int .i64 t144, .int .u16 t145, .int .u32 t146, .int .u32 t147, .slice Ao16 t148.length co16, .int .u16 x155008_9, u155009, .slice none 0 0, .int .i64 0] 45 (0, 0))) := ⟨by rw [← hq_]; exact (pk BK154)⟩; replace HB : Aside0 (Below w.heap.size w wc) := ⟨by rw [← hq_]; exact (pB HB)⟩; clear hq_)); have hnb107 := NB140_154.out; have hnc107 := NB154_140.out; obtain ⟨Z108_0, Z108_1, Z108_2, Z108_3, Z108_4, Z108_5, Z108_6, Z108_7, Z108_8, Z108_9, Z108_10, Z108_11, Y108_0, Y108_1, Y108_2, Y108_3, Y108_4, Y108_5, Y108_6, Y108_7, Y108_8, Y108_9, Y108_10, Y108_11⟩ := bc12 BK140.out) | ((with_reducible refine gate_store (t := 45) (p := 2) rfl ?_); refine store_event (t := 45) (p := 2) (v := ?vo_w109) (w1 := ((((((((((((wc.setCell ⟨gb140, 0, none⟩ (.bool false)).setCell ⟨gb140, 1, none⟩ (.bool false)).setCell ⟨gb140, 2, none⟩ (.bool false)).setCell ⟨gb140, 3, none⟩ (.int .i64 0)).setCell ⟨gb140, 4, none⟩ (.int .u16 0)).setCell ⟨gb140, 5, none⟩ (.int .u32 0)).setCell ⟨gb140, 6, none⟩ (.int .u32 0)).setCell ⟨gb140, 7, none⟩ (.slice none 0 0)).setCell ⟨gb140, 8, none⟩ (.int .u16 0)).setCell ⟨gb140, 9, none⟩ (.slice none 0 0)).setCell ⟨gb140, 10, none⟩ (.slice none 0 0)).setCell ⟨gb140, 11, none⟩ (.int .i64 0))) ?hg ?ho ?hn ?hr ?_; (case ho => rfl); (case hg => rfl); (case hn => rfl); (case hr => first | (go_simp; done) | (go_simp; rfl)); intro w109 hw; replace HO_9 : Aside0 (Kd.V (Kd.int .u8) 5 w109 w.heap.size (fun k_ => (P0_ k_ ∨ w.heap.size ≤ k_) ∧ some k_ ≠ (.slice Ao16 t148.length co16 : Value).ownBlock ∧ some k_ ≠ (.slice Ao16 t148.length co16 : Value).ownBlock ∧ some k_ ≠ (u155009 : Value).ownBlock ∧ k_ ≠ gb140 ∧ k_ ≠ gb153 ∧ k_ ≠ gb154) (.slice Ao106 x9_9.length co106) x9_9) := ⟨Kd.V_mono (vfF hw (Kd.V_mono HO_9.out (fun k_ hk => (⟨hk, hk.2.2.2.2.1⟩ : _ ∧ k_ ≠ gb140)))) (fun _ hk => ⟨hk.1.1, ⟨hk.1.2.1, ⟨hk.1.2.2.1, ⟨hk.1.2.2.2.1, ⟨hk.1.2.2.2.2.1, ⟨hk.1.2.2.2.2.2.1, hk.1.2.2.2.2.2.2⟩⟩⟩⟩⟩⟩)⟩; replace HO_154007 := rfE hw HO_154007 BK140; replace HO_155007 := rfE hw HO_155007 BK140; replace HO_155009 := rfE hw HO_155009 BK140; replace BK140 : Aside0 (w109.heap[gb140]? = some (.cells #[.bool false, .bool false, .bool false, .int .i64 0, .int .u16 0, .int .u32 0, .int .u32 0, .slice none 0 0, .int .u16 0, .slice none 0 0, .slice none 0 0, .int .i64 0] 45 (0, 0))) := ⟨by rw [hw]; apply puts12; exact BK140.out⟩; replace BK153 := bfE hw BK153 NB153_140; replace BK154 := bfE hw BK154 NB154_140; replace HB := bsE hw HB GE140; clear hw))
       refine bodyPost_ret (results_ctt rfl _ _ gb140 45 #[.bool false, .bool false, .bool false, .int .i64 0, .int .u16 0, .int .u32 0, .int .u32 0, .slice none 0 0, .int .u16 0, .slice none 0 0, .slice none 0 0, .int .i64 0] (0, 0) _ rfl (pk BK140) Try.underlying45 rfl (by kernel_rfl)) rfl ?_
       exact ⟨_, _, _, _, by first | rfl | (simp [errW_none, errW_some] <;> rfl) | (simp [*, errW_none, errW_some] <;> rfl), by first | exact Kd.R_nil _ _ _ _ _ | exact Kd.N_nil _ _ _ _ _ | exact Kd.V_nil _ _ _ _ _ | exact Kd.Q_nil _ _ _ _ _ | exact Kd.S_nil _ _ _ _ _, by first | exact Kd.R_nil _ _ _ _ _ | exact Kd.N_nil _ _ _ _ _ | exact Kd.V_nil _ _ _ _ _ | exact Kd.Q_nil _ _ _ _ _ | exact Kd.S_nil _ _ _ _ _, by first | exact Kd.R_nil _ _ _ _ _ | exact Kd.N_nil _ _ _ _ _ | exact Kd.V_nil _ _ _ _ _ | exact Kd.Q_nil _ _ _ _ _ | exact Kd.S_nil _ _ _ _ _, (by exact Kd.V_nil _ _ _ _ _), by repeat (first | (with_reducible first | exact HB.out | apply below_alloc | apply pw_below_drewN | apply below_drew1 | refine below_set ?_ GE140.out | refine below_set ?_ GE153.out | refine below_set ?_ GE154.out) | exact HB.out)⟩
      replace c66 := Bool.eq_false_iff.mpr c66
      subst c66
      have H1 : (if 0 ≤ (wrap64 ((x9_9.length : Int))) then (if (wrap64 ((x9_9.length : Int))) ≤ (x9_9.length : Int) then ((packet_part.f kj9 (x9_9.take ((wrap64 ((x9_9.length : Int))) : Int).toNat)).bind fun t202 => (some (false, t142, t143, t144, t145, t146, t147, t148, x155008_9, x155009_9, t202, 0, (x9_9.drop ((wrap64 ((x9_9.length : Int))) : Int).toNat), 0))) else (none)) else (none)) = some (r1, r2, r3, r4, r5, r6, r7, r8, r9, r10, r11, r12, r13, r14) := by rw [if_neg (show ¬ (false = true) by decide)] at H; simpa only [Int.sub_zero] using H
      clear H
      have H := H1
      clear H1
      obtain ⟨jz1, hjz1⟩ : ∃ j_ : Int, (wrap64 ((x9_9.length : Int))) = j_ := ⟨_, rfl⟩
      simp only [hjz1] at H
      have hjz1w : (IntKind.i64.wrap (x9_9.length : Int)) = jz1 := (i64_w _).trans hjz1
      obtain ⟨ji110, hji110⟩ : ∃ j_ : Int, jz1 = j_ := ⟨_, rfl⟩
      replace H : (if 0 ≤ (ji110) then (if (ji110) ≤ (x9_9.length : Int) then ((packet_part.f kj9 (x9_9.take ((ji110) : Int).toNat)).bind fun t202 => (some (false, t142, t143, t144, t145, t146, t147, t148, x155008_9, x155009_9, t202, 0, (x9_9.drop ((ji110) : Int).toNat), 0))) else (none)) else (none)) = some (r1, r2, r3, r4, r5, r6, r7, r8, r9, r10, r11, r12, r13, r14) := by first | (rw [hji110] at H; exact H) | (simp only [hji110] at H ⊢; exact H)
      have hji110w : (IntKind.i64.wrap (x9_9.length : Int)) = ji110 := hjz1w.trans hji110
      by_cases c111 : 0 ≤ (ji110)
      ·rw [if_pos c111] at H
       have c111b0 := eq_true c111
       have c111b1 : decide (0 ≤ (ji110)) = true := decide_eq_true c111
       clear c111
       by_cases c112 : (ji110) ≤ (x9_9.length : Int)
       ·rw [if_pos c112] at H
        have c112b0 := eq_true c112
        have c112b1 : decide ((ji110) ≤ (x9_9.length : Int)) = true := decide_eq_true c112
        clear c112
        obtain ⟨y197, hy197⟩ : ∃ y_ : List Int, y_ = (x9_9.take ((ji110) : Int).toNat) := ⟨_, rfl⟩
        replace H : ((packet_part.f kj9 y197).bind fun t202 => (some (false, t142, t143, t144, t145, t146, t147, t148, x155008_9, x155009_9, t202, 0, (x9_9.drop ((ji110) : Int).toNat), 0))) = some (r1, r2, r3, r4, r5, r6, r7, r8, r9, r10, r11, r12, r13, r14) := by first | (rw [hy197]; with_reducible exact H) | (have H2_ := (Option.bind_some _ _).symm.trans H; rw [hy197]; with_reducible exact H2_) | (have H2_ := (Option.bind_some _ _).symm.trans H; with_reducible exact H2_) | with_reducible exact H | (rw [hy197]; exact H) | exact H
        have Ny197 := Aside0.mk hy197
        clear hy197
        replace H := Option.bind_eq_some_iff.mp H
        obtain ⟨t202, A1130, H⟩ := H
        replace H : (some (false, t142, t143, t144, t145, t146, t147, t148, x155008_9, x155009_9, t202, 0, (x9_9.drop ((ji110) : Int).toNat), 0)) = some (r1, r2, r3, r4, r5, r6, r7, r8, r9, r10, r11, r12, r13, r14) := H
        have A113 := Aside0.mk A1130
        clear A1130
        have c114b0 := eq_true (of_decide_eq_true (by first | (with_reducible assumption) | assumption) : 0 ≤ (ji110))
        have c115b0 := eq_true (of_decide_eq_true (by first | (with_reducible assumption) | assumption) : (ji110) ≤ (x9_9.length : Int))
        obtain ⟨y205, hy205⟩ : ∃ y_ : List Int, y_ = (x9_9.drop ((ji110) : Int).toNat) := ⟨_, rfl⟩
        replace H : (some (false, t142, t143, t144, t145, t146, t147, t148, x155008_9, x155009_9, t202, 0, y205, 0)) = some (r1, r2, r3, r4, r5, r6, r7, r8, r9, r10, r11, r12, r13, r14) := by first | (rw [hy205]; with_reducible exact H) | (have H2_ := (Option.bind_some _ _).symm.trans H; rw [hy205]; with_reducible exact H2_) | (have H2_ := (Option.bind_some _ _).symm.trans H; with_reducible exact H2_) | with_reducible exact H | (rw [hy205]; exact H) | exact H
        have Ny205 := Aside0.mk hy205
        clear hy205
        simp only [Option.some.injEq, Prod.mk.injEq] at H
        obtain ⟨rfl, rfl, rfl, rfl, rfl, rfl, rfl, rfl, rfl, rfl, rfl, rfl, rfl, rfl⟩ := H
        have hnb116 := NB153_140.out
        have hnc116 := NB140_153.out
        have hnb117 := NB153_154.out
        have hnc117 := NB154_153.out
        obtain ⟨Z118_0, Z118_1, Z118_2, Z118_3, Z118_4, Z118_5, Z118_6, Z118_7, Y118_0, Y118_1, Y118_2, Y118_3, Y118_4, Y118_5, Y118_6, Y118_7⟩ := bc8 BK153.out
        obtain ⟨Ao119, co119, eo119⟩ := Kd.V_slice HO_9.out
        subst eo119
        have hnb120 := NB154_140.out
        have hnc120 := NB140_154.out
        obtain ⟨Z121_0, Z121_1, Z121_2, Z121_3, Z121_4, Z121_5, Z121_6, Z121_7, Z121_8, Z121_9, Z121_10, Z121_11, Y121_0, Y121_1, Y121_2, Y121_3, Y121_4, Y121_5, Y121_6, Y121_7, Y121_8, Y121_9, Y121_10, Y121_11⟩ := bc12 BK154.out
        have q122 : ((ji110) : Int) ≤ ((x9_9.length : Int) : Int) := of_decide_eq_true (by first | (with_reducible assumption) | assumption)
        obtain ⟨i0122, hi0122, _, hsz122, _⟩ := info_parts info5
        have hroom122 : x9_9.length ≤ co119 := (Kd.V_reads' HO_9.out).2.1
        have hC122 : Kd.F (Kd.int .u8) _ _ Ao119 x9_9.length x9_9 := (Kd.V_at (base := w.heap.size) HO_9.out).2.2
        have hcut122 := cut_to (P := Try.prog) 22 5 .i64 Try.underlying22 hi0122 Ao119 x9_9.length co119 (ji110) (oT (by first | (with_reducible assumption) | assumption)) q122 hroom122
        have hr122 := Kd.F_take (m := ((ji110) : Int).toNat) hC122 (by omega)
        have hy122 : y197.length = ((ji110) : Int).toNat := (by rw [Ny197.out, List.length_take]; omega)
        rw [← Ny197.out] at hr122
        rw [← hy122] at hcut122
        have HO201 := Aside0.mk (show Kd.V (Kd.int .u8) 5 _ w.heap.size _ (.slice Ao119 y197.length co119) y197 from Kd.V_mk (by omega) hr122)
        have HC201 := Aside0.mk (show y197.length ≤ co119 from by omega)
        clear hr122 hC122 hroom122 hi0122 hsz122
        have KY122 := Aside0.mk hy122
        clear hy122
        replace q122 := eq_true q122
        try go_wp2_with (first | ((with_reducible refine gate_callee (f := 48) rfl ?_); refine goesL_ (some 96) rfl rfl Try.func48 (by kernel_rfl) rfl #[.slice Ao119 y197.length co119] rfl (by (try simp only [List.map_toArray, List.map_cons, List.map_nil]); first | done | rfl | (simp only [List.length_drop, List.length_take]; rfl)) ?_; (with_reducible refine (packet_part.calls kj9 (fun k_ => ((P0_ k_ ∨ w.heap.size ≤ k_) ∧ (some k_ ≠ (.slice Ao16 t148.length co16 : Value).ownBlock ∧ (some k_ ≠ (.slice Ao16 t148.length co16 : Value).ownBlock ∧ (some k_ ≠ (u155009 : Value).ownBlock ∧ (k_ ≠ gb140 ∧ (k_ ≠ gb153 ∧ k_ ≠ gb154))))))) _ _ y197 t202 _ ?side1 A113.out).mono ?_); (case side1 => exact HO201.out); rintro e w123 ⟨v203, rfl, ho0, hb⟩; refine ⟨_, rfl, ?_⟩; replace HO_9 := Aside0.mk (Kd.V_elder' (by (with_reducible repeat (first | apply Kd.V_alloc | apply Kd.V_drewN | apply Kd.V_drew)); exact HO_9.out) (Kd.R_base ho0) hb); replace HO_154007 := rbE HO_154007 hb; replace HO_155007 := rbE HO_155007 hb; have n3_ := Aside0.mk (Kd.R_elder' (pR HO_155009) (Kd.R_base ho0) hb); replace HO201 := Aside0.mk (Kd.V_elder' (by (with_reducible repeat (first | apply Kd.V_alloc | apply Kd.V_drewN | apply Kd.V_drew)); exact HO201.out) (Kd.R_base ho0) hb); have HO204 := Aside0.mk (Kd.R_lower (Kd.R_new' (Kd.R_newM (M := fun k_ => (w.heap.size ≤ k_)) (Kd.R_mono (ok' := fun k_ => True) ho0 (fun _ hk_ => trivial)) (below_size (pB HB)) (fun k_ h_ => h_)) (Kd.R_lt (pR HO_155009))) (below_size (pB HB))); replace BK140 := bbE BK140 hb; replace BK153 := bbE BK153 hb; replace BK154 := bbE BK154 hb; replace HB := bstE HB hb; clear HO_155009; have HO_155009 := n3_; clear n3_; (try clear hb); (try clear hb2); (try clear hk); (try clear hi); (try clear ho0); obtain ⟨Ao124, co124, eo124⟩ := Kd.R_slice HO204.out; subst eo124; obtain ⟨Z125_0, Z125_1, Z125_2, Z125_3, Z125_4, Z125_5, Z125_6, Z125_7, Z125_8, Z125_9, Z125_10, Z125_11, Y125_0, Y125_1, Y125_2, Y125_3, Y125_4, Y125_5, Y125_6, Y125_7, Y125_8, Y125_9, Y125_10, Y125_11⟩ := bc12 BK154.out) | ((with_reducible refine gate_store (t := 22) (p := 97) rfl ?_); refine store_event (t := 22) (p := 97) (v := ?vo_w126) (w1 := (w123.setCell ⟨gb154, 10, none⟩ (.slice Ao124 t202.length co124))) ?hg ?ho ?hn ?hr ?_; (case ho => rfl); (case hg => rfl); (case hn => rfl); (case hr => first | (go_simp; done) | (go_simp; rfl)); intro w126 hw; replace HO_9 : Aside0 (Kd.V (Kd.int .u8) 5 w126 w.heap.size (fun k_ => (P0_ k_ ∨ w.heap.size ≤ k_) ∧ some k_ ≠ (.slice Ao16 t148.length co16 : Value).ownBlock ∧ some k_ ≠ (.slice Ao16 t148.length co16 : Value).ownBlock ∧ some k_ ≠ (u155009 : Value).ownBlock ∧ some k_ ≠ (.slice Ao124 t202.length co124 : Value).ownBlock ∧ k_ ≠ gb140 ∧ k_ ≠ gb153 ∧ k_ ≠ gb154) (.slice Ao119 x9_9.length co119) x9_9) := ⟨Kd.V_mono (vfF hw (Kd.V_mono HO_9.out (fun k_ hk => (⟨hk, hk.1.2.2.2.2.2.2⟩ : _ ∧ k_ ≠ gb154)))) (fun _ hk => ⟨hk.1.1.1, ⟨hk.1.1.2.1, ⟨hk.1.1.2.2.1, ⟨hk.1.1.2.2.2.1, ⟨hk.1.2, ⟨hk.1.1.2.2.2.2.1, ⟨hk.1.1.2.2.2.2.2.1, hk.1.1.2.2.2.2.2.2⟩⟩⟩⟩⟩⟩⟩)⟩; replace HO_154007 := rfE hw HO_154007 BK154; replace HO_155007 := rfE hw HO_155007 BK154; replace HO_155009 := rfE hw HO_155009 BK154; replace HO201 : Aside0 (Kd.V (Kd.int .u8) 5 w126 w.heap.size (fun k_ => (P0_ k_ ∨ w.heap.size ≤ k_) ∧ some k_ ≠ (.slice Ao16 t148.length co16 : Value).ownBlock ∧ some k_ ≠ (.slice Ao16 t148.length co16 : Value).ownBlock ∧ some k_ ≠ (u155009 : Value).ownBlock ∧ some k_ ≠ (.slice Ao124 t202.length co124 : Value).ownBlock ∧ k_ ≠ gb140 ∧ k_ ≠ gb153 ∧ k_ ≠ gb154) (.slice Ao119 y197.length co119) y197) := ⟨Kd.V_mono (vfF hw (Kd.V_mono HO201.out (fun k_ hk => (⟨hk, hk.1.2.2.2.2.2.2⟩ : _ ∧ k_ ≠ gb154)))) (fun _ hk => ⟨hk.1.1.1, ⟨hk.1.1.2.1, ⟨hk.1.1.2.2.1, ⟨hk.1.1.2.2.2.1, ⟨hk.1.2, ⟨hk.1.1.2.2.2.2.1, ⟨hk.1.1.2.2.2.2.2.1, hk.1.1.2.2.2.2.2.2⟩⟩⟩⟩⟩⟩⟩)⟩; replace HO204 : Aside0 (Kd.R (Kd.int .u8) 5 w126 w.heap.size (fun k_ => (w.heap.size ≤ k_) ∧ some k_ ≠ (u155009 : Value).ownBlock) (.slice Ao124 t202.length co124) t202) := ⟨Kd.R_mono (rfF hw HO204 BK154) (fun _ hk => ⟨hk.1.1.1, hk.1.2⟩)⟩; replace BK140 := bfE hw BK140 NB140_154; replace BK153 := bfE hw BK153 NB153_154; replace BK154 : Aside0 (w126.heap[gb154]? = some (.cells #[.bool false, .bool t142, .bool t143, .int .i64 t144, .int .u16 t145, .int .u32 t146, .int .u32 t147, .slice Ao16 t148.length co16, .int .u16 x155008_9, u155009, .slice Ao124 t202.length co124, .int .i64 0] 45 (0, 0))) := ⟨by rw [hw]; exact blk_put BK154.out 10 _ rfl⟩; replace HB := bsE hw HB GE154; clear hw))
        replace HO_9 := Aside0.mk (Kd.V_drew HO_9.out)
        replace HO_154007 := Aside0.mk (Kd.R_drew HO_154007.out)
        replace HO_155007 := Aside0.mk (Kd.R_drew HO_155007.out)
        replace HO_155009 := Aside0.mk (Kd.R_drew HO_155009.out)
        replace HO201 := Aside0.mk (Kd.V_drew HO201.out)
        replace HO204 := Aside0.mk (Kd.R_drew HO204.out)
        replace BK140 := Aside0.mk (blk_drew BK140.out)
        replace BK153 := Aside0.mk (blk_drew BK153.out)
        replace BK154 := Aside0.mk (blk_drew BK154.out)
        replace HB := Aside0.mk (below_drew1 HB.out)
        have q128 : ((ji110) : Int) ≤ ((x9_9.length : Int) : Int) := of_decide_eq_true (by first | (with_reducible assumption) | assumption)
        obtain ⟨i0128, hi0128, _, hsz128, _⟩ := info_parts info5
        have hroom128 : x9_9.length ≤ co119 := (Kd.V_reads' HO_9.out).2.1
        have hC128 : Kd.F (Kd.int .u8) _ _ Ao119 x9_9.length x9_9 := (Kd.V_at (base := w.heap.size) HO_9.out).2.2
        have q0128 : (0 : Int) ≤ ((ji110) : Int) := of_decide_eq_true (by first | (with_reducible assumption) | assumption)
        have hcut128 := cut_from (P := Try.prog) 22 5 .i64 Try.underlying22 hi0128 1 hsz128 Ao119 x9_9.length co119 (ji110) q0128 q128
        have hr128 := Kd.F_cut (m := ((ji110) : Int).toNat) (c := co119) hC128 (by omega) hroom128
        obtain ⟨A128, hA128⟩ : ∃ A1, A1 = (if co119 = ((ji110) : Int).toNat then Ao119 else (Ao119 : Option Addr).map (·.add (((ji110) : Int).toNat * 1))) := ⟨_, rfl⟩
        obtain ⟨c128, hc128⟩ : ∃ c1, c1 = co119 - ((ji110) : Int).toNat := ⟨_, rfl⟩
        have hy128 : y205.length = x9_9.length - ((ji110) : Int).toNat := (by rw [Ny205.out, List.length_drop] <;> omega)
        rw [show (x9_9).drop ((ji110) : Int).toNat = y205 from Ny205.out.symm] at hr128
        replace hr128 : Kd.F (Kd.int .u8) _ _ A128 y205.length y205 := (by rw [hA128]; exact hr128)
        rw [← hy128, ← hA128, ← hc128] at hcut128
        have HO209 := Aside0.mk (show Kd.V (Kd.int .u8) 5 _ w.heap.size _ (.slice A128 y205.length c128) y205 from Kd.V_mk (by rw [hy128, hc128]; exact Nat.sub_le_sub_right hroom128 _) hr128)
        have HC209 := Aside0.mk (show y205.length ≤ c128 from by rw [hy128, hc128]; exact Nat.sub_le_sub_right hroom128 _)
        clear hr128 hC128 hroom128 hi0128 hsz128 hc128
        have KY128 := Aside0.mk hy128
        have KA128 := Aside0.mk hA128
        clear hy128 hA128
        replace q128 := eq_true q128
        obtain ⟨Ao138, co138, eo138⟩ := Kd.R_slice HO_155009.out
        (first | subst eo138 | (injection eo138 with f1_ f2_ f3_; have f4_ := f1_.symm; have f5_ := f3_.symm; clear f1_ f2_ f3_; subst f4_; subst f5_))
        refine start_ (n := 7) (S := fun w' => w'.cell? ⟨gb154, 0, none⟩ = some (.bool false) ∧ w'.cell? ⟨gb154, 1, none⟩ = some (.bool t142) ∧ w'.cell? ⟨gb154, 2, none⟩ = some (.bool t143) ∧ w'.cell? ⟨gb154, 3, none⟩ = some (.int .i64 t144) ∧ w'.cell? ⟨gb154, 4, none⟩ = some (.int .u16 t145) ∧ w'.cell? ⟨gb154, 5, none⟩ = some (.int .u32 t146) ∧ w'.cell? ⟨gb154, 6, none⟩ = some (.int .u32 t147) ∧ w'.cell? ⟨gb154, 7, none⟩ = some (.slice Ao16 t148.length co16) ∧ w'.cell? ⟨gb154, 8, none⟩ = some (.int .u16 x155008_9) ∧ w'.cell? ⟨gb154, 9, none⟩ = some (.slice Ao138 x155009_9.length co138) ∧ w'.cell? ⟨gb154, 10, none⟩ = some (.slice Ao124 t202.length co124) ∧ w'.cell? ⟨gb154, 11, none⟩ = some (.int .i64 0)) (ds := []) #[false, false, false, false, false, false, false] (by kernel_rfl) rfl rfl ⟨(blk_cell BK154.out 0).trans rfl, (blk_cell BK154.out 1).trans rfl, (blk_cell BK154.out 2).trans rfl, (blk_cell BK154.out 3).trans rfl, (blk_cell BK154.out 4).trans rfl, (blk_cell BK154.out 5).trans rfl, (blk_cell BK154.out 6).trans rfl, (blk_cell BK154.out 7).trans rfl, (blk_cell BK154.out 8).trans rfl, (blk_cell BK154.out 9).trans rfl, (blk_cell BK154.out 10).trans rfl, (blk_cell BK154.out 11).trans rfl⟩ (fun hHeld => ?_)
        generalize w126.drew = w127 at HO_9 HO_154007 HO_155007 HO_155009 HO201 HO204 BK140 BK153 BK154 HB HO209 hHeld ⊢
        refine pure_ (i := 1) (N := some 99) (v := ?_) (a' := ?_) #[false, true, false, false, false, false, false] rfl rfl (by kernel_rfl) (fun _ _ _ h => h) (Or.inl ⟨by rfl, ?_⟩) ?_ ?_
        rotate_left
        ·intro w'
         go_simp
         with_reducible rfl
        rotate_left
        ·simp only [Act.put, List.setIfInBounds_toArray, List.set_cons_zero, List.set_cons_succ, i64_w, i32_w]
         rfl
        refine pure_ (i := 2) (N := some 100) (v := ?_) (a' := ?_) #[false, true, true, false, false, false, false] rfl rfl (by kernel_rfl) (fun _ _ _ h => h) (Or.inl ⟨by rfl, ?_⟩) ?_ ?_
        rotate_left
        ·intro w'
         go_simp
         with_reducible rfl
        rotate_left
        ·simp only [Act.put, List.setIfInBounds_toArray, List.set_cons_zero, List.set_cons_succ, i64_w, i32_w]
         rfl
        refine pure_ (i := 3) (N := some 101) (v := ?_) (a' := ?_) #[false, true, true, true, false, false, false] rfl rfl (by kernel_rfl) (fun _ _ _ h => h) (Or.inl ⟨by rfl, ?_⟩) ?_ ?_
        rotate_left
        ·intro w'
         go_simp
         with_reducible rfl
        rotate_left
        ·simp only [Act.put, List.setIfInBounds_toArray, List.set_cons_zero, List.set_cons_succ, i64_w, i32_w]
         rfl
        refine take_ (i := 0) (N := some 98) (v := ?_) (a' := ?_) #[true, true, true, true, false, false, false] rfl rfl (by kernel_rfl) (fun _ _ _ h => h) (Or.inl ⟨by rfl, ?_⟩) hHeld ?_ ?_
        rotate_left
        ·rintro w' ⟨s0, s1, s2, s3, s4, s5, s6, s7, s8, s9, s10, s11⟩
         go_simp
         with_reducible rfl
        rotate_left
        ·simp only [Act.put, List.setIfInBounds_toArray, List.set_cons_zero, List.set_cons_succ, i64_w, i32_w]
         rfl
        refine one_ (i := 4) (N := none) #[true, true, true, true, true, false, false] rfl rfl (by kernel_rfl) (by decide) (fun K hK => ?_)
        have hs129 : w127.cell? ⟨gb140, 0, none⟩ = some (.bool x141000_9) := (blk_cell BK140.out 0).trans rfl
        have hfs129 := blk_frozen BK140.out 0
        have hns129_1 := NB153_140.out
        have hns129_2 := NB154_140.out
        have hms129_1 := NB140_153.out
        have hms129_2 := NB140_154.out
        have hs130 : w127.cell? ⟨gb140, 1, none⟩ = some (.bool x141001_9) := (blk_cell BK140.out 1).trans rfl
        have hfs130 := blk_frozen BK140.out 1
        have hns130_1 := NB153_140.out
        have hns130_2 := NB154_140.out
        have hms130_1 := NB140_153.out
        have hms130_2 := NB140_154.out
        have hs131 : w127.cell? ⟨gb140, 2, none⟩ = some (.bool x141002_9) := (blk_cell BK140.out 2).trans rfl
        have hfs131 := blk_frozen BK140.out 2
        have hns131_1 := NB153_140.out
        have hns131_2 := NB154_140.out
        have hms131_1 := NB140_153.out
        have hms131_2 := NB140_154.out
        have hs132 : w127.cell? ⟨gb140, 3, none⟩ = some (.int .i64 x141003_9) := (blk_cell BK140.out 3).trans rfl
        have hfs132 := blk_frozen BK140.out 3
        have hns132_1 := NB153_140.out
        have hns132_2 := NB154_140.out
        have hms132_1 := NB140_153.out
        have hms132_2 := NB140_154.out
        have hs133 : w127.cell? ⟨gb140, 4, none⟩ = some (.int .u16 x141004_9) := (blk_cell BK140.out 4).trans rfl
        have hfs133 := blk_frozen BK140.out 4
        have hns133_1 := NB153_140.out
        have hns133_2 := NB154_140.out
        have hms133_1 := NB140_153.out
        have hms133_2 := NB140_154.out
        have hs134 : w127.cell? ⟨gb140, 5, none⟩ = some (.int .u32 x141005_9) := (blk_cell BK140.out 5).trans rfl
        have hfs134 := blk_frozen BK140.out 5
        have hns134_1 := NB153_140.out
        have hns134_2 := NB154_140.out
        have hms134_1 := NB140_153.out
        have hms134_2 := NB140_154.out
        have hs135 : w127.cell? ⟨gb140, 6, none⟩ = some (.int .u32 x141006_9) := (blk_cell BK140.out 6).trans rfl
        have hfs135 := blk_frozen BK140.out 6
        have hns135_1 := NB153_140.out
        have hns135_2 := NB154_140.out
        have hms135_1 := NB140_153.out
        have hms135_2 := NB140_154.out
        have hs136 : w127.cell? ⟨gb140, 7, none⟩ = some (.slice none 0 0) := (blk_cell BK140.out 7).trans rfl
        have hfs136 := blk_frozen BK140.out 7
        have hns136_1 := NB153_140.out
        have hns136_2 := NB154_140.out
        have hms136_1 := NB140_153.out
        have hms136_2 := NB140_154.out
        have hs137 : w127.cell? ⟨gb140, 8, none⟩ = some (.int .u16 x141008_9) := (blk_cell BK140.out 8).trans rfl
        have hfs137 := blk_frozen BK140.out 8
        have hns137_1 := NB153_140.out
        have hns137_2 := NB154_140.out
        have hms137_1 := NB140_153.out
        have hms137_2 := NB140_154.out
        have hs139 : w127.cell? ⟨gb140, 9, none⟩ = some (.slice none 0 0) := (blk_cell BK140.out 9).trans rfl
        have hfs139 := blk_frozen BK140.out 9
        have hns139_1 := NB153_140.out
        have hns139_2 := NB154_140.out
        have hms139_1 := NB140_153.out
        have hms139_2 := NB140_154.out
        have hs140 : w127.cell? ⟨gb140, 10, none⟩ = some (.slice none 0 0) := (blk_cell BK140.out 10).trans rfl
        have hfs140 := blk_frozen BK140.out 10
        have hns140_1 := NB153_140.out
        have hns140_2 := NB154_140.out
        have hms140_1 := NB140_153.out
        have hms140_2 := NB140_154.out
        have hs141 : w127.cell? ⟨gb140, 11, none⟩ = some (.int .i64 x141011_9) := (blk_cell BK140.out 11).trans rfl
        have hfs141 := blk_frozen BK140.out 11
        have hns141_1 := NB153_140.out
        have hns141_2 := NB154_140.out
        have hms141_1 := NB140_153.out
        have hms141_2 := NB140_154.out
        refine skip_ (w1 := ?_) (by rfl) rfl ?_ ?_
        rotate_left
        ·go_simp
         rfl
        refine hK.out _ _ ⟨(by (iterate 12 refine (cell_far (p := ⟨gb140, _, none⟩) NB154_140.out _).trans ?_); exact hHeld.1), (by (iterate 12 refine (cell_far (p := ⟨gb140, _, none⟩) NB154_140.out _).trans ?_); exact hHeld.2.1), (by (iterate 12 refine (cell_far (p := ⟨gb140, _, none⟩) NB154_140.out _).trans ?_); exact hHeld.2.2.1), (by (iterate 12 refine (cell_far (p := ⟨gb140, _, none⟩) NB154_140.out _).trans ?_); exact hHeld.2.2.2.1), (by (iterate 12 refine (cell_far (p := ⟨gb140, _, none⟩) NB154_140.out _).trans ?_); exact hHeld.2.2.2.2.1), (by (iterate 12 refine (cell_far (p := ⟨gb140, _, none⟩) NB154_140.out _).trans ?_); exact hHeld.2.2.2.2.2.1), (by (iterate 12 refine (cell_far (p := ⟨gb140, _, none⟩) NB154_140.out _).trans ?_); exact hHeld.2.2.2.2.2.2.1), (by (iterate 12 refine (cell_far (p := ⟨gb140, _, none⟩) NB154_140.out _).trans ?_); exact hHeld.2.2.2.2.2.2.2.1), (by (iterate 12 refine (cell_far (p := ⟨gb140, _, none⟩) NB154_140.out _).trans ?_); exact hHeld.2.2.2.2.2.2.2.2.1), (by (iterate 12 refine (cell_far (p := ⟨gb140, _, none⟩) NB154_140.out _).trans ?_); exact hHeld.2.2.2.2.2.2.2.2.2.1), (by (iterate 12 refine (cell_far (p := ⟨gb140, _, none⟩) NB154_140.out _).trans ?_); exact hHeld.2.2.2.2.2.2.2.2.2.2.1), (by (iterate 12 refine (cell_far (p := ⟨gb140, _, none⟩) NB154_140.out _).trans ?_); exact hHeld.2.2.2.2.2.2.2.2.2.2.2)⟩ (fun hHeld => ?_)
        clear hK K
        refine pure_ (i := 5) (N := some 3) (v := ?_) (a' := ?_) #[true, true, true, true, true, true, false] rfl rfl (by kernel_rfl) (fun _ _ _ h => h) (Or.inl ⟨by rfl, ?_⟩) ?_ ?_
        rotate_left
        ·intro w'
         go_simp
         with_reducible rfl
        rotate_left
        ·simp only [Act.put, List.setIfInBounds_toArray, List.set_cons_zero, List.set_cons_succ, i64_w, i32_w]
         rfl
        refine pure_ (i := 6) (N := some 4) (v := ?_) (a' := ?_) #[true, true, true, true, true, true, true] rfl rfl (by kernel_rfl) (fun _ _ _ h => h) (Or.inl ⟨by rfl, ?_⟩) ?_ ?_
        rotate_left
        ·intro w'
         go_simp
         with_reducible rfl
        rotate_left
        ·simp only [Act.put, List.setIfInBounds_toArray, List.set_cons_zero, List.set_cons_succ, i64_w, i32_w]
         rfl
        refine done_ (by kernel_rfl) ?_
        try go_wp2
        refine bodyPost_ret (results_ctt rfl _ _ gb140 45 #[.bool false, .bool t142, .bool t143, .int .i64 t144, .int .u16 t145, .int .u32 t146, .int .u32 t147, .slice Ao16 t148.length co16, .int .u16 x155008_9, .slice Ao138 x155009_9.length co138, .slice Ao124 t202.length co124, .int .i64 0] (0, 0) _ rfl (by (with_reducible repeat (first | refine blk_drewN ?_ _ | refine blk_drew ?_ | refine blk_alloc ?_ _)); apply puts12; (with_reducible repeat (first | refine blk_drewN ?_ _ | refine blk_drew ?_ | refine blk_alloc ?_ _)); exact BK140.out) Try.underlying45 rfl (by kernel_rfl)) rfl ?_
        exact ⟨_, _, _, _, by first | rfl | (simp [errW_none, errW_some] <;> rfl) | (simp only [← hji110]; first | rfl | (simp [errW_none, errW_some] <;> rfl)) | (simp [*, errW_none, errW_some] <;> rfl), by (with_reducible repeat (first | apply Kd.R_alloc | apply Kd.R_drewN | apply Kd.R_drew)); exact Kd.R_mono (Kd.R_far (p := ⟨gb140, 11, none⟩) (Kd.R_far (p := ⟨gb140, 10, none⟩) (Kd.R_far (p := ⟨gb140, 9, none⟩) (Kd.R_far (p := ⟨gb140, 8, none⟩) (Kd.R_far (p := ⟨gb140, 7, none⟩) (Kd.R_far (p := ⟨gb140, 6, none⟩) (Kd.R_far (p := ⟨gb140, 5, none⟩) (Kd.R_far (p := ⟨gb140, 4, none⟩) (Kd.R_far (p := ⟨gb140, 3, none⟩) (Kd.R_far (p := ⟨gb140, 2, none⟩) (Kd.R_far (p := ⟨gb140, 1, none⟩) (Kd.R_far (p := ⟨gb140, 0, none⟩) (Kd.R_types HO_155007.out BK140.out (by decide)) (fun _ hk => hk.2) (.bool false)) (fun _ hk => hk.2) (.bool t142)) (fun _ hk => hk.2) (.bool t143)) (fun _ hk => hk.2) (.int .i64 t144)) (fun _ hk => hk.2) (.int .u16 t145)) (fun _ hk => hk.2) (.int .u32 t146)) (fun _ hk => hk.2) (.int .u32 t147)) (fun _ hk => hk.2) (.slice Ao16 t148.length co16)) (fun _ hk => hk.2) (.int .u16 x155008_9)) (fun _ hk => hk.2) (.slice Ao138 x155009_9.length co138)) (fun _ hk => hk.2) (.slice Ao124 t202.length co124)) (fun _ hk => hk.2) (.int .i64 0)) (fun _ hk => hk.1), by (with_reducible repeat (first | apply Kd.R_alloc | apply Kd.R_drewN | apply Kd.R_drew)); exact Kd.R_mono (Kd.R_far (p := ⟨gb140, 11, none⟩) (Kd.R_far (p := ⟨gb140, 10, none⟩) (Kd.R_far (p := ⟨gb140, 9, none⟩) (Kd.R_far (p := ⟨gb140, 8, none⟩) (Kd.R_far (p := ⟨gb140, 7, none⟩) (Kd.R_far (p := ⟨gb140, 6, none⟩) (Kd.R_far (p := ⟨gb140, 5, none⟩) (Kd.R_far (p := ⟨gb140, 4, none⟩) (Kd.R_far (p := ⟨gb140, 3, none⟩) (Kd.R_far (p := ⟨gb140, 2, none⟩) (Kd.R_far (p := ⟨gb140, 1, none⟩) (Kd.R_far (p := ⟨gb140, 0, none⟩) (Kd.R_types HO_155009.out BK140.out (by decide)) (fun _ hk => hk.2) (.bool false)) (fun _ hk => hk.2) (.bool t142)) (fun _ hk => hk.2) (.bool t143)) (fun _ hk => hk.2) (.int .i64 t144)) (fun _ hk => hk.2) (.int .u16 t145)) (fun _ hk => hk.2) (.int .u32 t146)) (fun _ hk => hk.2) (.int .u32 t147)) (fun _ hk => hk.2) (.slice Ao16 t148.length co16)) (fun _ hk => hk.2) (.int .u16 x155008_9)) (fun _ hk => hk.2) (.slice Ao138 x155009_9.length co138)) (fun _ hk => hk.2) (.slice Ao124 t202.length co124)) (fun _ hk => hk.2) (.int .i64 0)) (fun _ hk => ⟨hk.1.1, hk.1.2⟩), by (with_reducible repeat (first | apply Kd.R_alloc | apply Kd.R_drewN | apply Kd.R_drew)); exact Kd.R_mono (Kd.R_far (p := ⟨gb140, 11, none⟩) (Kd.R_far (p := ⟨gb140, 10, none⟩) (Kd.R_far (p := ⟨gb140, 9, none⟩) (Kd.R_far (p := ⟨gb140, 8, none⟩) (Kd.R_far (p := ⟨gb140, 7, none⟩) (Kd.R_far (p := ⟨gb140, 6, none⟩) (Kd.R_far (p := ⟨gb140, 5, none⟩) (Kd.R_far (p := ⟨gb140, 4, none⟩) (Kd.R_far (p := ⟨gb140, 3, none⟩) (Kd.R_far (p := ⟨gb140, 2, none⟩) (Kd.R_far (p := ⟨gb140, 1, none⟩) (Kd.R_far (p := ⟨gb140, 0, none⟩) (Kd.R_types HO204.out BK140.out (by decide)) (fun _ hk => hk.2) (.bool false)) (fun _ hk => hk.2) (.bool t142)) (fun _ hk => hk.2) (.bool t143)) (fun _ hk => hk.2) (.int .i64 t144)) (fun _ hk => hk.2) (.int .u16 t145)) (fun _ hk => hk.2) (.int .u32 t146)) (fun _ hk => hk.2) (.int .u32 t147)) (fun _ hk => hk.2) (.slice Ao16 t148.length co16)) (fun _ hk => hk.2) (.int .u16 x155008_9)) (fun _ hk => hk.2) (.slice Ao138 x155009_9.length co138)) (fun _ hk => hk.2) (.slice Ao124 t202.length co124)) (fun _ hk => hk.2) (.int .i64 0)) (fun _ hk => ⟨hk.1.1, hk.1.2⟩), by (with_reducible repeat (first | apply Kd.V_alloc | apply Kd.V_drewN | apply Kd.V_drew)); exact Kd.V_mono (Kd.V_far (p := ⟨gb140, 11, none⟩) (Kd.V_far (p := ⟨gb140, 10, none⟩) (Kd.V_far (p := ⟨gb140, 9, none⟩) (Kd.V_far (p := ⟨gb140, 8, none⟩) (Kd.V_far (p := ⟨gb140, 7, none⟩) (Kd.V_far (p := ⟨gb140, 6, none⟩) (Kd.V_far (p := ⟨gb140, 5, none⟩) (Kd.V_far (p := ⟨gb140, 4, none⟩) (Kd.V_far (p := ⟨gb140, 3, none⟩) (Kd.V_far (p := ⟨gb140, 2, none⟩) (Kd.V_far (p := ⟨gb140, 1, none⟩) (Kd.V_far (p := ⟨gb140, 0, none⟩) (Kd.V_mono HO209.out (fun k_ hk => (⟨hk, hk.2.2.2.2.2.1⟩ : _ ∧ k_ ≠ gb140))) (fun _ hk => hk.2) (.bool false)) (fun _ hk => hk.2) (.bool t142)) (fun _ hk => hk.2) (.bool t143)) (fun _ hk => hk.2) (.int .i64 t144)) (fun _ hk => hk.2) (.int .u16 t145)) (fun _ hk => hk.2) (.int .u32 t146)) (fun _ hk => hk.2) (.int .u32 t147)) (fun _ hk => hk.2) (.slice Ao16 t148.length co16)) (fun _ hk => hk.2) (.int .u16 x155008_9)) (fun _ hk => hk.2) (.slice Ao138 x155009_9.length co138)) (fun _ hk => hk.2) (.slice Ao124 t202.length co124)) (fun _ hk => hk.2) (.int .i64 0)) (fun _ hk => ⟨hk.1.1, ⟨hk.1.2.2.1, ⟨hk.1.2.2.2.1, hk.1.2.2.2.2.1⟩⟩⟩), by repeat (first | (with_reducible first | exact HB.out | apply below_alloc | apply pw_below_drewN | apply below_drew1 | refine below_set ?_ GE140.out | refine below_set ?_ GE153.out | refine below_set ?_ GE154.out) | exact HB.out)⟩
       rw [if_neg c112] at H
       exact absurd H (by simp)
      rw [if_neg c111] at H
      exact absurd H (by simp)
   rw [if_neg c9] at H
   exact absurd H (by simp)
  rw [if_neg c8] at H
  exact absurd H (by simp)
 rw [if_neg c7] at H
 have c7b0 : (t152 == 0) = false := beq_eq_false_iff_ne.mpr c7
 have c7b1 : (t152 != 0) = true := bne_iff_ne.mpr c7
 simp only [Option.some.injEq, Prod.mk.injEq] at H
 obtain ⟨rfl, rfl, rfl, rfl, rfl, rfl, rfl, rfl, rfl, rfl, rfl, rfl, rfl, rfl⟩ := H
 go_enter Try.func32, Try.ntmps32
 go_wp2_with (first | ((with_reducible refine gate_dst (N := 2) rfl ?_); refine box_event ?hg (N := 2) ?hd (cs := #[.bool false, .bool false, .bool false, .int .i64 0, .int .u16 0, .int .u32 0, .int .u32 0, .slice none 0 0, .int .u16 0, .slice none 0 0, .slice none 0 0, .int .i64 0]) (t := 45) ?hr ?_; (case hd => rfl); (case hg => rfl); (case hr => first | (go_simp; done) | (go_simp; rfl)); intro gb140 hg w142 hbox hb; replace HO0 := Aside0.mk (Kd.V_below (Kd.V_elderB (by (with_reducible repeat (first | apply Kd.V_alloc | apply Kd.V_drewN | apply Kd.V_drew)); exact HO0.out) gb140 (Nat.le_of_eq hg.symm)) hb); have n1_ := bstE HB hb; have BK140 := Aside0.mk (hbox); have GW140 := geE hg HB; have GE140 := geE hg HB; clear HB; have HB := n1_; clear n1_; clear hb hbox hg) | ((with_reducible refine gate_callee (f := 47) rfl ?_); refine goesL_ (some 20) rfl rfl Try.func47 (by kernel_rfl) rfl #[.slice A0 l0.length c0] rfl (by (try simp only [List.map_toArray, List.map_cons, List.map_nil]); first | done | rfl | (simp only [List.length_drop, List.length_take]; rfl)) ?_; (with_reducible refine (head_Read.calls k _ _ l0 t141 t142 t143 t144 t145 t146 t147 t148 t151 t152 _ ?side1 ?side2 A6.out).mono ?_); (case side1 => exact cE (Kd.V_reads' HO0.out).2.2); (case side2 => exact (Kd.V_reads' HO0.out).2.1); rintro e w143 ⟨v149, rfl, ho0, hb⟩; refine ⟨_, rfl, ?_⟩; replace HO0 := Aside0.mk (Kd.V_elder' (by (with_reducible repeat (first | apply Kd.V_alloc | apply Kd.V_drewN | apply Kd.V_drew)); exact HO0.out) (Kd.R_base ho0) hb); have HO150 := Aside0.mk (Kd.R_lower (Kd.R_newM (M := fun k_ => (w.heap.size ≤ k_)) ho0 (below_size (pB HB)) (fun k_ h_ => h_)) (below_size (pB HB))); replace BK140 := bbE BK140 hb; replace HB := bstE HB hb; (try clear hb); (try clear hb2); (try clear hk); (try clear hi); (try clear ho0)) | ((with_reducible refine gate_dst (N := 5) rfl ?_); refine box_event ?hg (N := 5) ?hd (cs := #[.bool false, .bool false, .bool false, .int .i64 0, .int .u16 0, .int .u32 0, .int .u32 0, .slice none 0 0]) (t := 43) ?hr ?_; (case hd => rfl); (case hg => rfl); (case hr => first | (go_simp; done) | (go_simp; rfl)); intro gb153 hg w144 hbox hb; replace HO0 := Aside0.mk (Kd.V_below (Kd.V_elderB (by (with_reducible repeat (first | apply Kd.V_alloc | apply Kd.V_drewN | apply Kd.V_drew)); exact HO0.out) gb153 (Nat.le_of_eq hg.symm)) hb); replace HO150 := rbE HO150 hb; have n2_ := bbE BK140 hb; have n3_ := bstE HB hb; have BK153 := Aside0.mk (hbox); have GW153 := geE hg HB; have GE153 := geE hg HB; have NB140_153 := nlE hg BK140; have NB153_140 := ngE hg BK140; clear BK140; clear HB; have BK140 := n2_; have HB := n3_; clear n2_ n3_; clear hb hbox hg; have hnb145 := NB153_140.out; have hnc145 := NB140_153.out; obtain ⟨Z146_0, Z146_1, Z146_2, Z146_3, Z146_4, Z146_5, Z146_6, Z146_7, Y146_0, Y146_1, Y146_2, Y146_3, Y146_4, Y146_5, Y146_6, Y146_7⟩ := bc8 BK153.out; obtain ⟨Ao147, co147, eo147⟩ := Kd.R_slice HO150.out; subst eo147) | ((with_reducible refine gate_store (t := 43) (p := 5) rfl ?_); refine store_event (t := 43) (p := 5) (v := ?vo_w148) (w1 := ((((((((w144.setCell ⟨gb153, 0, none⟩ (.bool t141)).setCell ⟨gb153, 1, none⟩ (.bool t142)).setCell ⟨gb153, 2, none⟩ (.bool t143)).setCell ⟨gb153, 3, none⟩ (.int .i64 t144)).setCell ⟨gb153, 4, none⟩ (.int .u16 t145)).setCell ⟨gb153, 5, none⟩ (.int .u32 t146)).setCell ⟨gb153, 6, none⟩ (.int .u32 t147)).setCell ⟨gb153, 7, none⟩ (.slice Ao147 t148.length co147))) ?hg ?ho ?hn ?hr ?_; (case ho => rfl); (case hg => rfl); (case hn => rfl); (case hr => first | (go_simp; done) | (go_simp; rfl)); intro w148 hw; replace HO0 : Aside0 (Kd.V (Kd.int .u8) 5 w148 w.heap.size (fun k_ => (P0_ k_ ∨ w.heap.size ≤ k_) ∧ some k_ ≠ (.slice Ao147 t148.length co147 : Value).ownBlock ∧ k_ ≠ gb140 ∧ k_ ≠ gb153) (.slice A0 l0.length c0) l0) := ⟨Kd.V_mono (vfF hw (Kd.V_mono HO0.out (fun k_ hk => (⟨hk, hk.2⟩ : _ ∧ k_ ≠ gb153)))) (fun _ hk => ⟨hk.1.1.1.1, ⟨hk.1.1.2, ⟨hk.1.1.1.2, hk.1.2⟩⟩⟩)⟩; replace HO150 : Aside0 (Kd.R (Kd.int .u32) 40 w148 w.heap.size (fun k_ => (w.heap.size ≤ k_)) (.slice Ao147 t148.length co147) t148) := ⟨Kd.R_mono (rfF hw HO150 BK153) (fun _ hk => hk.1.1)⟩; replace BK140 := bfE hw BK140 NB140_153; replace BK153 : Aside0 (w148.heap[gb153]? = some (.cells #[.bool t141, .bool t142, .bool t143, .int .i64 t144, .int .u16 t145, .int .u32 t146, .int .u32 t147, .slice Ao147 t148.length co147] 43 (0, 0))) := ⟨by rw [hw]; apply puts8; exact BK153.out⟩; replace HB := bsE hw HB GE153; clear hw; obtain ⟨Z149_0, Z149_1, Z149_2, Z149_3, Z149_4, Z149_5, Z149_6, Z149_7, Z149_8, Z149_9, Z149_10, Z149_11, Y149_0, Y149_1, Y149_2, Y149_3, Y149_4, Y149_5, Y149_6, Y149_7, Y149_8, Y149_9, Y149_10, Y149_11⟩ := bc12 BK140.out) | ((with_reducible refine gate_store (t := 45) (p := 2) rfl ?_); refine store_event (t := 45) (p := 2) (v := ?vo_w150) (w1 := ((((((((((((w148.setCell ⟨gb140, 0, none⟩ (.bool false)).setCell ⟨gb140, 1, none⟩ (.bool false)).setCell ⟨gb140, 2, none⟩ (.bool false)).setCell ⟨gb140, 3, none⟩ (.int .i64 0)).setCell ⟨gb140, 4, none⟩ (.int .u16 0)).setCell ⟨gb140, 5, none⟩ (.int .u32 0)).setCell ⟨gb140, 6, none⟩ (.int .u32 0)).setCell ⟨gb140, 7, none⟩ (.slice none 0 0)).setCell ⟨gb140, 8, none⟩ (.int .u16 0)).setCell ⟨gb140, 9, none⟩ (.slice none 0 0)).setCell ⟨gb140, 10, none⟩ (.slice none 0 0)).setCell ⟨gb140, 11, none⟩ (.int .i64 0))) ?hg ?ho ?hn ?hr ?_; (case ho => rfl); (case hg => rfl); (case hn => rfl); (case hr => first | (go_simp; done) | (go_simp; rfl)); intro w150 hw; replace HO0 : Aside0 (Kd.V (Kd.int .u8) 5 w150 w.heap.size (fun k_ => (P0_ k_ ∨ w.heap.size ≤ k_) ∧ some k_ ≠ (.slice Ao147 t148.length co147 : Value).ownBlock ∧ k_ ≠ gb140 ∧ k_ ≠ gb153) (.slice A0 l0.length c0) l0) := ⟨Kd.V_mono (vfF hw (Kd.V_mono HO0.out (fun k_ hk => (⟨hk, hk.2.2.1⟩ : _ ∧ k_ ≠ gb140)))) (fun _ hk => ⟨hk.1.1, ⟨hk.1.2.1, ⟨hk.1.2.2.1, hk.1.2.2.2⟩⟩⟩)⟩; replace HO150 := rfE hw HO150 BK140; replace BK140 : Aside0 (w150.heap[gb140]? = some (.cells #[.bool false, .bool false, .bool false, .int .i64 0, .int .u16 0, .int .u32 0, .int .u32 0, .slice none 0 0, .int .u16 0, .slice none 0 0, .slice none 0 0, .int .i64 0] 45 (0, 0))) := ⟨by rw [hw]; apply puts12; exact BK140.out⟩; replace BK153 := bfE hw BK153 NB153_140; replace HB := bsE hw HB GE140; clear hw))
 refine bodyPost_ret (results_ctt rfl _ _ gb140 45 #[.bool false, .bool false, .bool false, .int .i64 0, .int .u16 0, .int .u32 0, .int .u32 0, .slice none 0 0, .int .u16 0, .slice none 0 0, .slice none 0 0, .int .i64 0] (0, 0) _ rfl (pk BK140) Try.underlying45 rfl (by kernel_rfl)) rfl ?_
 exact ⟨_, _, _, _, by first | rfl | (simp [errW_none, errW_some] <;> rfl) | (simp [*, errW_none, errW_some] <;> rfl), by first | exact Kd.R_nil _ _ _ _ _ | exact Kd.N_nil _ _ _ _ _ | exact Kd.V_nil _ _ _ _ _ | exact Kd.Q_nil _ _ _ _ _ | exact Kd.S_nil _ _ _ _ _, by first | exact Kd.R_nil _ _ _ _ _ | exact Kd.N_nil _ _ _ _ _ | exact Kd.V_nil _ _ _ _ _ | exact Kd.Q_nil _ _ _ _ _ | exact Kd.S_nil _ _ _ _ _, by first | exact Kd.R_nil _ _ _ _ _ | exact Kd.N_nil _ _ _ _ _ | exact Kd.V_nil _ _ _ _ _ | exact Kd.Q_nil _ _ _ _ _ | exact Kd.S_nil _ _ _ _ _, (by exact Kd.V_nil _ _ _ _ _), by repeat (first | (with_reducible first | exact HB.out | apply below_alloc | apply pw_below_drewN | apply below_drew1 | refine below_set ?_ GE140.out | refine below_set ?_ GE153.out) | exact HB.out)⟩
end Go.Proofs.Ytcbdgknfkoodoaa.F
