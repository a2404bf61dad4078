/- The walks of the program's functions and the plain proofs for this claim, merged by a program; each theorem says what it says, no conditions beyond those stated. -/
import Derived.Test.YtcbdgknfkoodoaaKB1
import Derived.Test.YtcbdgknfkoodoaaKB2
import Derived.Test.YtcbdgknfkoodoaaKB3
import Derived.Test.YtcbdgknfkoodoaaKB0
import Derived.ChangeSlices
import Derived.Deep.Slices
import Derived.WideShapes
import Derived.SizedLaws
namespace Go.Proofs.Ytcbdgknfkoodoaa.F
open Go.RowKit Go.Proofs.YtcbdgknfkoodoaaW.PrintWords Go.Proofs.YtcbdgknfkoodoaaW.PrintLast Go.Proofs.YtcbdgknfkoodoaaW.PrintMore
attribute [local go_sem] max2_int min2_int max_two min_two max_three min_three max_four min_four   
set_option linter.unusedVariables false
set_option linter.unusedSimpArgs false
def packet_Canon.f (k : Nat) (l0 : List Int) : Option (Bool) := (packet_open.f k l0).bind fun bt679 => (if bt679.2.2.2.2.2.2.2.2.2.2.2.2.2 = 0 then (if bt679.1 = true then ((pad_Clean.f k bt679.2.2.2.2.2.2.2.2.2.2.2.2.1).bind fun t702 => (some t702)) else (some true)) else (some false))
theorem packet_Canon.mono : ∀ a0 k, LeO (packet_Canon.f k a0) (packet_Canon.f (k + 1) a0) := by
  intro a0 k
  unfold packet_Canon.f
  repeat' first
      | (with_reducible exact packet_open.mono _ _)
      | (with_reducible exact pad_Clean.mono _ _)
      | (with_reducible exact LeO.refl _)
      | (with_reducible exact LeO.none _)
      | (with_reducible refine LeO.ite ?_ ?_)
      | (with_reducible refine LeO.bind ?_ (fun _ => ?_))
      | exact packet_open.mono _ _
      | exact pad_Clean.mono _ _
      | exact LeO.none _
      | refine LeO.ite ?_ ?_
      | refine LeO.bind ?_ (fun _ => ?_)
set_option maxHeartbeats 8000000 in
set_option maxRecDepth 100000 in
theorem packet_Canon.calls (k : Nat) (A0 : Option Addr) (c0 : Nat) (l0 : List Int) (r : Bool) (w : World) (hr0 : Kd.C (Kd.int .u8) w A0 l0.length l0) (hc0 : l0.length ≤ c0) (h : packet_Canon.f k l0 = some r) :
    Calls Try.prog 28 #[.slice A0 l0.length c0] w fun e w' => e = .returned (.bool r) ∧ Below w.heap.size w w' := by
  have hu45 := Try.underlying45
  have HR0 := Aside0.mk hr0
  have HC0 := Aside0.mk hc0
  clear hr0 hc0
  have HB := Aside0.mk (Below.refl w.heap.size w)
  have H : ((packet_open.f k l0).bind fun bt679 => (if bt679.2.2.2.2.2.2.2.2.2.2.2.2.2 = 0 then (if bt679.1 = true then ((pad_Clean.f k bt679.2.2.2.2.2.2.2.2.2.2.2.2.1).bind fun t702 => (some t702)) else (some true)) else (some false))) = some r := h
  clear h
  replace H := Option.bind_eq_some_iff.mp H
  obtain ⟨⟨t679, t680, t681, t682, t683, t684, t685, t686, t689, t690, t693, t696, t697, t700⟩, A20, H⟩ := H
  replace H : (if t700 = 0 then (if t679 = true then ((pad_Clean.f k t697).bind fun t702 => (some t702)) else (some true)) else (some false)) = some r := H
  have A2 := Aside0.mk A20
  clear A20
  by_cases c3 : t700 = 0
  · rw [if_pos c3] at H
    have c3b0 : (t700 == 0) = true := beq_iff_eq.mpr c3
    have c3b1 : (t700 != 0) = false := bne_eq_false_iff_eq.mpr c3
    clear c3
    by_cases c4 : t679 = true
    · subst c4
      have H1 : ((pad_Clean.f k t697).bind fun t702 => (some t702)) = some r := by rw [if_pos rfl] at H; exact H
      clear H
      have H := H1
      clear H1
      replace H := Option.bind_eq_some_iff.mp H
      obtain ⟨t702, A50, H⟩ := H
      replace H : (some t702) = some r := H
      have A5 := Aside0.mk A50
      clear A50
      obtain rfl := Option.some.inj H
      go_enter Try.func28, Try.ntmps28
      go_wp2_with (first | ((with_reducible refine gate_callee (f := 32) rfl ?_); refine goesL_ (some 8) rfl rfl Try.func32 (by kernel_rfl) rfl #[.slice A0 l0.length c0] rfl (by (try simp only [List.map_toArray, List.map_cons, List.map_nil]); first | done | rfl | (simp only [List.length_drop, List.length_take]; rfl)) ?_; (with_reducible refine (packet_open.calls k (fun k_ => k_ < w.heap.size) _ _ l0 true t680 t681 t682 t683 t684 t685 t686 t689 t690 t693 t696 t697 t700 _ ?side1 A2.out).mono ?_); (case side1 => exact Kd.V_mk HC0.out (Kd.F_below (Kd.C_F (Kd.heap_int .u8) HR0.out) (pB HB))); rintro e w6 ⟨v687, v691, v694, v698, rfl, ho0, ho1, ho2, ho3, hb⟩; refine ⟨_, rfl, ?_⟩; have HO688 := Aside0.mk (Kd.R_lower (Kd.R_mono (ok' := fun k_ => True) ho0 (fun _ hk_ => trivial)) (below_size (pB HB))); have HO692 := Aside0.mk (Kd.R_lower (Kd.R_mono (ok' := fun k_ => some k_ ≠ (v694 : Value).ownBlock) ho1 (fun _ hk_ => hk_.2)) (below_size (pB HB))); have HO695 := Aside0.mk (Kd.R_lower (Kd.R_mono (ok' := fun k_ => some k_ ≠ (v691 : Value).ownBlock) ho2 (fun _ hk_ => hk_.2)) (below_size (pB HB))); have HO699 := Aside0.mk (Kd.V_lower (Kd.V_mono (ok' := fun k_ => some k_ ≠ (v687 : Value).ownBlock ∧ some k_ ≠ (v691 : Value).ownBlock ∧ some k_ ≠ (v694 : Value).ownBlock) ho3 (fun k_ hk_ => ⟨hk_.2.1, hk_.2.2.1, hk_.2.2.2⟩)) (below_size (pB HB))); replace HB := bstE HB hb; (try clear hb); (try clear hb2); (try clear hk); (try clear hi); (try clear ho0); (try clear ho1); (try clear ho2); (try clear ho3)) | ((with_reducible refine gate_dst (N := 3) rfl ?_); refine box_event ?hg (N := 3) ?hd (cs := #[.bool false, .bool false, .bool false, .int .i64 0, .int .u16 0, .int .u32 0, .int .u32 0, .slice none 0 0, .int .u16 0, .slice none 0 0, .slice none 0 0, .int .i64 0]) (t := 45) ?hr ?_; (case hd => rfl); (case hg => rfl); (case hr => first | (go_simp; done) | (go_simp; rfl)); intro gb701 hg w7 hbox hb; replace HO688 := rbE HO688 hb; replace HO692 := rbE HO692 hb; replace HO695 := rbE HO695 hb; replace HO699 := Aside0.mk (Kd.V_below (Kd.V_elderB (by (with_reducible repeat (first | apply Kd.V_alloc | apply Kd.V_drewN | apply Kd.V_drew)); exact HO699.out) gb701 (Nat.le_of_eq hg.symm)) hb); have n4_ := bstE HB hb; have BK701 := Aside0.mk (hbox); have GW701 := geE hg HB; have GE701 := geE hg HB; clear HB; have HB := n4_; clear n4_; clear hb hbox hg; obtain ⟨hcz8_0, hcz8_1, hcz8_2, hcz8_3, hcz8_4, hcz8_5, hcz8_6, hcz8_7, hcz8_8, hcz8_9, hcz8_10, hcz8_11, hfz8_0, hfz8_1, hfz8_2, hfz8_3, hfz8_4, hfz8_5, hfz8_6, hfz8_7, hfz8_8, hfz8_9, hfz8_10, hfz8_11⟩ := bc12 BK701.out; obtain ⟨Ao9, co9, eo9⟩ := Kd.R_slice HO688.out; subst eo9; obtain ⟨Ao10, co10, eo10⟩ := Kd.R_slice HO692.out; subst eo10; obtain ⟨Ao11, co11, eo11⟩ := Kd.R_slice HO695.out; subst eo11) | ((with_reducible refine gate_store (t := 45) (p := 3) rfl ?_); refine store_event (t := 45) (p := 3) (v := ?vo_w12) (w1 := ((((((((((((w7.setCell ⟨gb701, 0, none⟩ (.bool true)).setCell ⟨gb701, 1, none⟩ (.bool t680)).setCell ⟨gb701, 2, none⟩ (.bool t681)).setCell ⟨gb701, 3, none⟩ (.int .i64 t682)).setCell ⟨gb701, 4, none⟩ (.int .u16 t683)).setCell ⟨gb701, 5, none⟩ (.int .u32 t684)).setCell ⟨gb701, 6, none⟩ (.int .u32 t685)).setCell ⟨gb701, 7, none⟩ (.slice Ao9 t686.length co9)).setCell ⟨gb701, 8, none⟩ (.int .u16 t689)).setCell ⟨gb701, 9, none⟩ (.slice Ao10 t690.length co10)).setCell ⟨gb701, 10, none⟩ (.slice Ao11 t693.length co11)).setCell ⟨gb701, 11, none⟩ (.int .i64 t696))) ?hg ?ho ?hn ?hr ?_; (case ho => rfl); (case hg => rfl); (case hn => rfl); (case hr => first | (go_simp; done) | (go_simp; rfl)); intro w12 hw; replace HO688 := rfE hw HO688 BK701; replace HO692 := rfE hw HO692 BK701; replace HO695 := rfE hw HO695 BK701; replace HO699 : Aside0 (Kd.V (Kd.int .u8) 5 w12 w.heap.size (fun k_ => some k_ ≠ (.slice Ao9 t686.length co9 : Value).ownBlock ∧ some k_ ≠ (.slice Ao10 t690.length co10 : Value).ownBlock ∧ some k_ ≠ (.slice Ao11 t693.length co11 : Value).ownBlock ∧ k_ ≠ gb701) v698 t697) := ⟨(by rw [hw]; exact (by (with_reducible repeat (first | apply Kd.V_alloc | apply Kd.V_drewN | apply Kd.V_drew)); exact Kd.V_mono (Kd.V_far (p := ⟨gb701, 11, none⟩) (Kd.V_far (p := ⟨gb701, 10, none⟩) (Kd.V_far (p := ⟨gb701, 9, none⟩) (Kd.V_far (p := ⟨gb701, 8, none⟩) (Kd.V_far (p := ⟨gb701, 7, none⟩) (Kd.V_far (p := ⟨gb701, 6, none⟩) (Kd.V_far (p := ⟨gb701, 5, none⟩) (Kd.V_far (p := ⟨gb701, 4, none⟩) (Kd.V_far (p := ⟨gb701, 3, none⟩) (Kd.V_far (p := ⟨gb701, 2, none⟩) (Kd.V_far (p := ⟨gb701, 1, none⟩) (Kd.V_far (p := ⟨gb701, 0, none⟩) (Kd.V_mono HO699.out (fun k_ hk => (⟨hk, hk.2⟩ : _ ∧ k_ ≠ gb701))) (fun _ hk => hk.2) (.bool true)) (fun _ hk => hk.2) (.bool t680)) (fun _ hk => hk.2) (.bool t681)) (fun _ hk => hk.2) (.int .i64 t682)) (fun _ hk => hk.2) (.int .u16 t683)) (fun _ hk => hk.2) (.int .u32 t684)) (fun _ hk => hk.2) (.int .u32 t685)) (fun _ hk => hk.2) (.slice Ao9 t686.length co9)) (fun _ hk => hk.2) (.int .u16 t689)) (fun _ hk => hk.2) (.slice Ao10 t690.length co10)) (fun _ hk => hk.2) (.slice Ao11 t693.length co11)) (fun _ hk => hk.2) (.int .i64 t696)) (fun _ hk => ⟨hk.1.1.1, ⟨hk.1.1.2.1, ⟨hk.1.1.2.2, hk.1.2⟩⟩⟩)))⟩; replace BK701 : Aside0 (w12.heap[gb701]? = some (.cells #[.bool true, .bool t680, .bool t681, .int .i64 t682, .int .u16 t683, .int .u32 t684, .int .u32 t685, .slice Ao9 t686.length co9, .int .u16 t689, .slice Ao10 t690.length co10, .slice Ao11 t693.length co11, .int .i64 t696] 45 (0, 0))) := ⟨by rw [hw]; apply puts12; exact BK701.out⟩; replace HB := bsE hw HB GE701; clear hw; obtain ⟨hcz13_0, hcz13_1, hcz13_2, hcz13_3, hcz13_4, hcz13_5, hcz13_6, hcz13_7, hcz13_8, hcz13_9, hcz13_10, hcz13_11, hfz13_0, hfz13_1, hfz13_2, hfz13_3, hfz13_4, hfz13_5, hfz13_6, hfz13_7, hfz13_8, hfz13_9, hfz13_10, hfz13_11⟩ := bc12 BK701.out; obtain ⟨Ao14, co14, eo14⟩ := Kd.V_slice HO699.out; subst eo14) | (go_at_call 46; (with_reducible refine (pad_Clean.calls k _ _ t697 t702 _ ?side1 ?side2 A5.out).mono ?_); (case side1 => repeat (first | exact (Kd.V_reads' HO699.out).2.2 | (with_reducible refine Kd.C_alloc ?_ _) | (with_reducible refine Kd.C_drewN ?_ _) | (with_reducible refine Kd.C_drew ?_))); (case side2 => exact (Kd.V_reads' HO699.out).2.1); rintro e w' ⟨rfl, ⟨nd, rfl⟩⟩))
      go_ret
      exact ⟨by first | rfl | (simp [errW_none, errW_some] <;> rfl) | (simp [*, errW_none, errW_some] <;> rfl), by repeat (first | (with_reducible first | exact HB.out | apply below_alloc | apply pw_below_drewN | apply below_drew1 | refine below_set ?_ GE701.out) | exact HB.out)⟩
    replace c4 := Bool.eq_false_iff.mpr c4
    subst c4
    have H1 : (some true) = some r := by rw [if_neg (show ¬ (false = true) by decide)] at H; exact H
    clear H
    have H := H1
    clear H1
    obtain rfl := Option.some.inj H
    go_enter Try.func28, Try.ntmps28
    go_wp2_with (first | ((with_reducible refine gate_callee (f := 32) rfl ?_); refine goesL_ (some 8) rfl rfl Try.func32 (by kernel_rfl) rfl #[.slice A0 l0.length c0] rfl (by (try simp only [List.map_toArray, List.map_cons, List.map_nil]); first | done | rfl | (simp only [List.length_drop, List.length_take]; rfl)) ?_; (with_reducible refine (packet_open.calls k (fun k_ => k_ < w.heap.size) _ _ l0 false t680 t681 t682 t683 t684 t685 t686 t689 t690 t693 t696 t697 t700 _ ?side1 A2.out).mono ?_); (case side1 => exact Kd.V_mk HC0.out (Kd.F_below (Kd.C_F (Kd.heap_int .u8) HR0.out) (pB HB))); rintro e w15 ⟨v687, v691, v694, v698, rfl, ho0, ho1, ho2, ho3, hb⟩; refine ⟨_, rfl, ?_⟩; have HO688 := Aside0.mk (Kd.R_lower (Kd.R_mono (ok' := fun k_ => True) ho0 (fun _ hk_ => trivial)) (below_size (pB HB))); have HO692 := Aside0.mk (Kd.R_lower (Kd.R_mono (ok' := fun k_ => some k_ ≠ (v694 : Value).ownBlock) ho1 (fun _ hk_ => hk_.2)) (below_size (pB HB))); have HO695 := Aside0.mk (Kd.R_lower (Kd.R_mono (ok' := fun k_ => some k_ ≠ (v691 : Value).ownBlock) ho2 (fun _ hk_ => hk_.2)) (below_size (pB HB))); have HO699 := Aside0.mk (Kd.V_lower (Kd.V_mono (ok' := fun k_ => some k_ ≠ (v687 : Value).ownBlock ∧ some k_ ≠ (v691 : Value).ownBlock ∧ some k_ ≠ (v694 : Value).ownBlock) ho3 (fun k_ hk_ => ⟨hk_.2.1, hk_.2.2.1, hk_.2.2.2⟩)) (below_size (pB HB))); replace HB := bstE HB hb; (try clear hb); (try clear hb2); (try clear hk); (try clear hi); (try clear ho0); (try clear ho1); (try clear ho2); (try clear ho3)) | ((with_reducible refine gate_dst (N := 3) rfl ?_); refine box_event ?hg (N := 3) ?hd (cs := #[.bool false, .bool false, .bool false, .int .i64 0, .int .u16 0, .int .u32 0, .int .u32 0, .slice none 0 0, .int .u16 0, .slice none 0 0, .slice none 0 0, .int .i64 0]) (t := 45) ?hr ?_; (case hd => rfl); (case hg => rfl); (case hr => first | (go_simp; done) | (go_simp; rfl)); intro gb701 hg w16 hbox hb; replace HO688 := rbE HO688 hb; replace HO692 := rbE HO692 hb; replace HO695 := rbE HO695 hb; replace HO699 := Aside0.mk (Kd.V_below (Kd.V_elderB (by (with_reducible repeat (first | apply Kd.V_alloc | apply Kd.V_drewN | apply Kd.V_drew)); exact HO699.out) gb701 (Nat.le_of_eq hg.symm)) hb); have n4_ := bstE HB hb; have BK701 := Aside0.mk (hbox); have GW701 := geE hg HB; have GE701 := geE hg HB; clear HB; have HB := n4_; clear n4_; clear hb hbox hg; obtain ⟨hcz17_0, hcz17_1, hcz17_2, hcz17_3, hcz17_4, hcz17_5, hcz17_6, hcz17_7, hcz17_8, hcz17_9, hcz17_10, hcz17_11, hfz17_0, hfz17_1, hfz17_2, hfz17_3, hfz17_4, hfz17_5, hfz17_6, hfz17_7, hfz17_8, hfz17_9, hfz17_10, hfz17_11⟩ := bc12 BK701.out; obtain ⟨Ao18, co18, eo18⟩ := Kd.R_slice HO688.out; subst eo18; obtain ⟨Ao19, co19, eo19⟩ := Kd.R_slice HO692.out; subst eo19; obtain ⟨Ao20, co20, eo20⟩ := Kd.R_slice HO695.out; subst eo20) | ((with_reducible refine gate_store (t := 45) (p := 3) rfl ?_); refine store_event (t := 45) (p := 3) (v := ?vo_w21) (w1 := ((((((((((((w16.setCell ⟨gb701, 0, none⟩ (.bool false)).setCell ⟨gb701, 1, none⟩ (.bool t680)).setCell ⟨gb701, 2, none⟩ (.bool t681)).setCell ⟨gb701, 3, none⟩ (.int .i64 t682)).setCell ⟨gb701, 4, none⟩ (.int .u16 t683)).setCell ⟨gb701, 5, none⟩ (.int .u32 t684)).setCell ⟨gb701, 6, none⟩ (.int .u32 t685)).setCell ⟨gb701, 7, none⟩ (.slice Ao18 t686.length co18)).setCell ⟨gb701, 8, none⟩ (.int .u16 t689)).setCell ⟨gb701, 9, none⟩ (.slice Ao19 t690.length co19)).setCell ⟨gb701, 10, none⟩ (.slice Ao20 t693.length co20)).setCell ⟨gb701, 11, none⟩ (.int .i64 t696))) ?hg ?ho ?hn ?hr ?_; (case ho => rfl); (case hg => rfl); (case hn => rfl); (case hr => first | (go_simp; done) | (go_simp; rfl)); intro w21 hw; replace HO688 := rfE hw HO688 BK701; replace HO692 := rfE hw HO692 BK701; replace HO695 := rfE hw HO695 BK701; replace HO699 : Aside0 (Kd.V (Kd.int .u8) 5 w21 w.heap.size (fun k_ => some k_ ≠ (.slice Ao18 t686.length co18 : Value).ownBlock ∧ some k_ ≠ (.slice Ao19 t690.length co19 : Value).ownBlock ∧ some k_ ≠ (.slice Ao20 t693.length co20 : Value).ownBlock ∧ k_ ≠ gb701) v698 t697) := ⟨(by rw [hw]; exact (by (with_reducible repeat (first | apply Kd.V_alloc | apply Kd.V_drewN | apply Kd.V_drew)); exact Kd.V_mono (Kd.V_far (p := ⟨gb701, 11, none⟩) (Kd.V_far (p := ⟨gb701, 10, none⟩) (Kd.V_far (p := ⟨gb701, 9, none⟩) (Kd.V_far (p := ⟨gb701, 8, none⟩) (Kd.V_far (p := ⟨gb701, 7, none⟩) (Kd.V_far (p := ⟨gb701, 6, none⟩) (Kd.V_far (p := ⟨gb701, 5, none⟩) (Kd.V_far (p := ⟨gb701, 4, none⟩) (Kd.V_far (p := ⟨gb701, 3, none⟩) (Kd.V_far (p := ⟨gb701, 2, none⟩) (Kd.V_far (p := ⟨gb701, 1, none⟩) (Kd.V_far (p := ⟨gb701, 0, none⟩) (Kd.V_mono HO699.out (fun k_ hk => (⟨hk, hk.2⟩ : _ ∧ k_ ≠ gb701))) (fun _ hk => hk.2) (.bool false)) (fun _ hk => hk.2) (.bool t680)) (fun _ hk => hk.2) (.bool t681)) (fun _ hk => hk.2) (.int .i64 t682)) (fun _ hk => hk.2) (.int .u16 t683)) (fun _ hk => hk.2) (.int .u32 t684)) (fun _ hk => hk.2) (.int .u32 t685)) (fun _ hk => hk.2) (.slice Ao18 t686.length co18)) (fun _ hk => hk.2) (.int .u16 t689)) (fun _ hk => hk.2) (.slice Ao19 t690.length co19)) (fun _ hk => hk.2) (.slice Ao20 t693.length co20)) (fun _ hk => hk.2) (.int .i64 t696)) (fun _ hk => ⟨hk.1.1.1, ⟨hk.1.1.2.1, ⟨hk.1.1.2.2, hk.1.2⟩⟩⟩)))⟩; replace BK701 : Aside0 (w21.heap[gb701]? = some (.cells #[.bool false, .bool t680, .bool t681, .int .i64 t682, .int .u16 t683, .int .u32 t684, .int .u32 t685, .slice Ao18 t686.length co18, .int .u16 t689, .slice Ao19 t690.length co19, .slice Ao20 t693.length co20, .int .i64 t696] 45 (0, 0))) := ⟨by rw [hw]; apply puts12; exact BK701.out⟩; replace HB := bsE hw HB GE701; clear hw; obtain ⟨hcz22_0, hcz22_1, hcz22_2, hcz22_3, hcz22_4, hcz22_5, hcz22_6, hcz22_7, hcz22_8, hcz22_9, hcz22_10, hcz22_11, hfz22_0, hfz22_1, hfz22_2, hfz22_3, hfz22_4, hfz22_5, hfz22_6, hfz22_7, hfz22_8, hfz22_9, hfz22_10, hfz22_11⟩ := bc12 BK701.out))
    go_ret
    exact ⟨by first | rfl | (simp [errW_none, errW_some] <;> rfl) | (simp [*, errW_none, errW_some] <;> rfl), by repeat (first | (with_reducible first | exact HB.out | apply below_alloc | apply pw_below_drewN | apply below_drew1 | refine below_set ?_ GE701.out) | exact HB.out)⟩
  rw [if_neg c3] at H
  have c3b0 : (t700 == 0) = false := beq_eq_false_iff_ne.mpr c3
  have c3b1 : (t700 != 0) = true := bne_iff_ne.mpr c3
  obtain rfl := Option.some.inj H
  go_enter Try.func28, Try.ntmps28
  go_wp2_with (first | ((with_reducible refine gate_callee (f := 32) rfl ?_); refine goesL_ (some 8) rfl rfl Try.func32 (by kernel_rfl) rfl #[.slice A0 l0.length c0] rfl (by (try simp only [List.map_toArray, List.map_cons, List.map_nil]); first | done | rfl | (simp only [List.length_drop, List.length_take]; rfl)) ?_; (with_reducible refine (packet_open.calls k (fun k_ => k_ < w.heap.size) _ _ l0 t679 t680 t681 t682 t683 t684 t685 t686 t689 t690 t693 t696 t697 t700 _ ?side1 A2.out).mono ?_); (case side1 => exact Kd.V_mk HC0.out (Kd.F_below (Kd.C_F (Kd.heap_int .u8) HR0.out) (pB HB))); rintro e w23 ⟨v687, v691, v694, v698, rfl, ho0, ho1, ho2, ho3, hb⟩; refine ⟨_, rfl, ?_⟩; have HO688 := Aside0.mk (Kd.R_lower (Kd.R_mono (ok' := fun k_ => True) ho0 (fun _ hk_ => trivial)) (below_size (pB HB))); have HO692 := Aside0.mk (Kd.R_lower (Kd.R_mono (ok' := fun k_ => some k_ ≠ (v694 : Value).ownBlock) ho1 (fun _ hk_ => hk_.2)) (below_size (pB HB))); have HO695 := Aside0.mk (Kd.R_lower (Kd.R_mono (ok' := fun k_ => some k_ ≠ (v691 : Value).ownBlock) ho2 (fun _ hk_ => hk_.2)) (below_size (pB HB))); have HO699 := Aside0.mk (Kd.V_lower (Kd.V_mono (ok' := fun k_ => some k_ ≠ (v687 : Value).ownBlock ∧ some k_ ≠ (v691 : Value).ownBlock ∧ some k_ ≠ (v694 : Value).ownBlock) ho3 (fun k_ hk_ => ⟨hk_.2.1, hk_.2.2.1, hk_.2.2.2⟩)) (below_size (pB HB))); replace HB := bstE HB hb; (try clear hb); (try clear hb2); (try clear hk); (try clear hi); (try clear ho0); (try clear ho1); (try clear ho2); (try clear ho3)) | ((with_reducible refine gate_dst (N := 3) rfl ?_); refine box_event ?hg (N := 3) ?hd (cs := #[.bool false, .bool false, .bool false, .int .i64 0, .int .u16 0, .int .u32 0, .int .u32 0, .slice none 0 0, .int .u16 0, .slice none 0 0, .slice none 0 0, .int .i64 0]) (t := 45) ?hr ?_; (case hd => rfl); (case hg => rfl); (case hr => first | (go_simp; done) | (go_simp; rfl)); intro gb701 hg w24 hbox hb; replace HO688 := rbE HO688 hb; replace HO692 := rbE HO692 hb; replace HO695 := rbE HO695 hb; replace HO699 := Aside0.mk (Kd.V_below (Kd.V_elderB (by (with_reducible repeat (first | apply Kd.V_alloc | apply Kd.V_drewN | apply Kd.V_drew)); exact HO699.out) gb701 (Nat.le_of_eq hg.symm)) hb); have n4_ := bstE HB hb; have BK701 := Aside0.mk (hbox); have GW701 := geE hg HB; have GE701 := geE hg HB; clear HB; have HB := n4_; clear n4_; clear hb hbox hg; obtain ⟨hcz25_0, hcz25_1, hcz25_2, hcz25_3, hcz25_4, hcz25_5, hcz25_6, hcz25_7, hcz25_8, hcz25_9, hcz25_10, hcz25_11, hfz25_0, hfz25_1, hfz25_2, hfz25_3, hfz25_4, hfz25_5, hfz25_6, hfz25_7, hfz25_8, hfz25_9, hfz25_10, hfz25_11⟩ := bc12 BK701.out; obtain ⟨Ao26, co26, eo26⟩ := Kd.R_slice HO688.out; subst eo26; obtain ⟨Ao27, co27, eo27⟩ := Kd.R_slice HO692.out; subst eo27; obtain ⟨Ao28, co28, eo28⟩ := Kd.R_slice HO695.out; subst eo28) | ((with_reducible refine gate_store (t := 45) (p := 3) rfl ?_); refine store_event (t := 45) (p := 3) (v := ?vo_w29) (w1 := ((((((((((((w24.setCell ⟨gb701, 0, none⟩ (.bool t679)).setCell ⟨gb701, 1, none⟩ (.bool t680)).setCell ⟨gb701, 2, none⟩ (.bool t681)).setCell ⟨gb701, 3, none⟩ (.int .i64 t682)).setCell ⟨gb701, 4, none⟩ (.int .u16 t683)).setCell ⟨gb701, 5, none⟩ (.int .u32 t684)).setCell ⟨gb701, 6, none⟩ (.int .u32 t685)).setCell ⟨gb701, 7, none⟩ (.slice Ao26 t686.length co26)).setCell ⟨gb701, 8, none⟩ (.int .u16 t689)).setCell ⟨gb701, 9, none⟩ (.slice Ao27 t690.length co27)).setCell ⟨gb701, 10, none⟩ (.slice Ao28 t693.length co28)).setCell ⟨gb701, 11, none⟩ (.int .i64 t696))) ?hg ?ho ?hn ?hr ?_; (case ho => rfl); (case hg => rfl); (case hn => rfl); (case hr => first | (go_simp; done) | (go_simp; rfl)); intro w29 hw; replace HO688 := rfE hw HO688 BK701; replace HO692 := rfE hw HO692 BK701; replace HO695 := rfE hw HO695 BK701; replace HO699 : Aside0 (Kd.V (Kd.int .u8) 5 w29 w.heap.size (fun k_ => some k_ ≠ (.slice Ao26 t686.length co26 : Value).ownBlock ∧ some k_ ≠ (.slice Ao27 t690.length co27 : Value).ownBlock ∧ some k_ ≠ (.slice Ao28 t693.length co28 : Value).ownBlock ∧ k_ ≠ gb701) v698 t697) := ⟨(by rw [hw]; exact (by (with_reducible repeat (first | apply Kd.V_alloc | apply Kd.V_drewN | apply Kd.V_drew)); exact Kd.V_mono (Kd.V_far (p := ⟨gb701, 11, none⟩) (Kd.V_far (p := ⟨gb701, 10, none⟩) (Kd.V_far (p := ⟨gb701, 9, none⟩) (Kd.V_far (p := ⟨gb701, 8, none⟩) (Kd.V_far (p := ⟨gb701, 7, none⟩) (Kd.V_far (p := ⟨gb701, 6, none⟩) (Kd.V_far (p := ⟨gb701, 5, none⟩) (Kd.V_far (p := ⟨gb701, 4, none⟩) (Kd.V_far (p := ⟨gb701, 3, none⟩) (Kd.V_far (p := ⟨gb701, 2, none⟩) (Kd.V_far (p := ⟨gb701, 1, none⟩) (Kd.V_far (p := ⟨gb701, 0, none⟩) (Kd.V_mono HO699.out (fun k_ hk => (⟨hk, hk.2⟩ : _ ∧ k_ ≠ gb701))) (fun _ hk => hk.2) (.bool t679)) (fun _ hk => hk.2) (.bool t680)) (fun _ hk => hk.2) (.bool t681)) (fun _ hk => hk.2) (.int .i64 t682)) (fun _ hk => hk.2) (.int .u16 t683)) (fun _ hk => hk.2) (.int .u32 t684)) (fun _ hk => hk.2) (.int .u32 t685)) (fun _ hk => hk.2) (.slice Ao26 t686.length co26)) (fun _ hk => hk.2) (.int .u16 t689)) (fun _ hk => hk.2) (.slice Ao27 t690.length co27)) (fun _ hk => hk.2) (.slice Ao28 t693.length co28)) (fun _ hk => hk.2) (.int .i64 t696)) (fun _ hk => ⟨hk.1.1.1, ⟨hk.1.1.2.1, ⟨hk.1.1.2.2, hk.1.2⟩⟩⟩)))⟩; replace BK701 : Aside0 (w29.heap[gb701]? = some (.cells #[.bool t679, .bool t680, .bool t681, .int .i64 t682, .int .u16 t683, .int .u32 t684, .int .u32 t685, .slice Ao26 t686.length co26, .int .u16 t689, .slice Ao27 t690.length co27, .slice Ao28 t693.length co28, .int .i64 t696] 45 (0, 0))) := ⟨by rw [hw]; apply puts12; exact BK701.out⟩; replace HB := bsE hw HB GE701; clear hw))
  go_ret
  exact ⟨by first | rfl | (simp [errW_none, errW_some] <;> rfl) | (simp [*, errW_none, errW_some] <;> rfl), by repeat (first | (with_reducible first | exact HB.out | apply below_alloc | apply pw_below_drewN | apply below_drew1 | refine below_set ?_ GE701.out) | exact HB.out)⟩
end Go.Proofs.Ytcbdgknfkoodoaa.F
namespace Go.Proofs.Ytcbdgknfkoodoaa.F
open Go.RowKit Go.Proofs.YtcbdgknfkoodoaaW.PrintWords Go.Proofs.YtcbdgknfkoodoaaW.PrintLast Go.Proofs.YtcbdgknfkoodoaaW.PrintMore
attribute [local go_sem] max2_int min2_int max_two min_two max_three min_three max_four min_four   
set_option linter.unusedVariables false
set_option linter.unusedSimpArgs false
def crossbarlaw06_awake.f (k : Nat)  : Option (Bool) := (some (([1, 2, 3, 4] : List Int) : List Int)).bind fun y703 => ((some (([7] : List Int) : List Int)).bind fun y706 => ((packet_Write.f k true true false 96 0 0 0 ([] : List Int) 48862 y703 y706 2 23).bind fun bt710 => (if (bt710.1.length : Int) = 23 then ((packet_Read.f k bt710.1).bind fun bt714 => ((packet_Write.f k true true false 96 0 0 0 ([] : List Int) 48862 y703 y706 2 22).bind fun bt734 => ((some (([] : List Int) : List Int)).bind fun y738 => (if y738.length + bt710.1.length < 140737488355328 then ((some (y738 ++ bt710.1 : List Int)).bind fun y741 => (if 21 < (y741.length : Int) then (if bt710.2 = 0 then (if bt714.2.2.2.2.2.2.2.2.2.2.2.2 = 0 then (if bt734.2 = 7 then ((packet_Size.f k true true false 96 0 0 0 ([] : List Int) 48862 y703 y706 2).bind fun t745 => (if t745 = 23 then ((crossbarref06_Same.f k true true false 96 0 0 0 ([] : List Int) 48862 y703 y706 2 bt714.1 bt714.2.1 bt714.2.2.1 bt714.2.2.2.1 bt714.2.2.2.2.1 bt714.2.2.2.2.2.1 bt714.2.2.2.2.2.2.1 bt714.2.2.2.2.2.2.2.1 bt714.2.2.2.2.2.2.2.2.1 bt714.2.2.2.2.2.2.2.2.2.1 bt714.2.2.2.2.2.2.2.2.2.2.1 bt714.2.2.2.2.2.2.2.2.2.2.2.1).bind fun t746 => (if t746 = true then ((packet_Canon.f k bt710.1).bind fun t747 => (if t747 = true then ((packet_Canon.f k (y741.set (21 : Int).toNat 1)).bind fun t748 => (if t748 = true then (none) else ((packet_Right.f k true true false 96 0 0 0 ([] : List Int) 48862 y703 y706 2).bind fun t749 => (some t749)))) else (none))) else (none))) else (none))) else (none)) else (none)) else (none)) else (none))) else (none))))) else (none))))
theorem crossbarlaw06_awake.mono : ∀ k, LeO (crossbarlaw06_awake.f k ) (crossbarlaw06_awake.f (k + 1) ) := by
  intro  k
  unfold crossbarlaw06_awake.f
  repeat' first
      | (with_reducible exact crossbarref06_Same.mono _ _ _ _ _ _ _ _ _ _ _ _ _ _ _ _ _ _ _ _ _ _ _ _ _)
      | (with_reducible exact packet_Canon.mono _ _)
      | (with_reducible exact packet_Read.mono _ _)
      | (with_reducible exact packet_Right.mono _ _ _ _ _ _ _ _ _ _ _ _ _)
      | (with_reducible exact packet_Size.mono _ _ _ _ _ _ _ _ _ _ _ _ _)
      | (with_reducible exact packet_Write.mono _ _ _ _ _ _ _ _ _ _ _ _ _ _)
      | (with_reducible exact LeO.refl _)
      | (with_reducible exact LeO.none _)
      | (with_reducible refine LeO.ite ?_ ?_)
      | (with_reducible refine LeO.bind ?_ (fun _ => ?_))
      | exact crossbarref06_Same.mono _ _ _ _ _ _ _ _ _ _ _ _ _ _ _ _ _ _ _ _ _ _ _ _ _
      | exact packet_Canon.mono _ _
      | exact packet_Read.mono _ _
      | exact packet_Right.mono _ _ _ _ _ _ _ _ _ _ _ _ _
      | exact packet_Size.mono _ _ _ _ _ _ _ _ _ _ _ _ _
      | exact packet_Write.mono _ _ _ _ _ _ _ _ _ _ _ _ _ _
      | exact LeO.none _
      | refine LeO.ite ?_ ?_
      | refine LeO.bind ?_ (fun _ => ?_)
set_option maxHeartbeats 8000000 in
set_option maxRecDepth 100000 in
theorem crossbarlaw06_awake.calls (k : Nat)  (r : Bool) (w : World) (h : crossbarlaw06_awake.f k  = some r) :
    Calls Try.prog 19 #[] w fun e w' => e = .returned (.bool r) ∧ Below w.heap.size w w' := by
  have hu43 := Try.underlying43
  have hu45 := Try.underlying45
  have HB := Aside0.mk (Below.refl w.heap.size w)
  have H : ((some (([1, 2, 3, 4] : List Int) : List Int)).bind fun y703 => ((some (([7] : List Int) : List Int)).bind fun y706 => ((packet_Write.f k true true false 96 0 0 0 ([] : List Int) 48862 y703 y706 2 23).bind fun bt710 => (if (bt710.1.length : Int) = 23 then ((packet_Read.f k bt710.1).bind fun bt714 => ((packet_Write.f k true true false 96 0 0 0 ([] : List Int) 48862 y703 y706 2 22).bind fun bt734 => ((some (([] : List Int) : List Int)).bind fun y738 => (if y738.length + bt710.1.length < 140737488355328 then ((some (y738 ++ bt710.1 : List Int)).bind fun y741 => (if 21 < (y741.length : Int) then (if bt710.2 = 0 then (if bt714.2.2.2.2.2.2.2.2.2.2.2.2 = 0 then (if bt734.2 = 7 then ((packet_Size.f k true true false 96 0 0 0 ([] : List Int) 48862 y703 y706 2).bind fun t745 => (if t745 = 23 then ((crossbarref06_Same.f k true true false 96 0 0 0 ([] : List Int) 48862 y703 y706 2 bt714.1 bt714.2.1 bt714.2.2.1 bt714.2.2.2.1 bt714.2.2.2.2.1 bt714.2.2.2.2.2.1 bt714.2.2.2.2.2.2.1 bt714.2.2.2.2.2.2.2.1 bt714.2.2.2.2.2.2.2.2.1 bt714.2.2.2.2.2.2.2.2.2.1 bt714.2.2.2.2.2.2.2.2.2.2.1 bt714.2.2.2.2.2.2.2.2.2.2.2.1).bind fun t746 => (if t746 = true then ((packet_Canon.f k bt710.1).bind fun t747 => (if t747 = true then ((packet_Canon.f k (y741.set (21 : Int).toNat 1)).bind fun t748 => (if t748 = true then (none) else ((packet_Right.f k true true false 96 0 0 0 ([] : List Int) 48862 y703 y706 2).bind fun t749 => (some t749)))) else (none))) else (none))) else (none))) else (none)) else (none)) else (none)) else (none))) else (none))))) else (none))))) = some r := h
  clear h
  obtain ⟨y703, hy703⟩ : ∃ y_ : List Int, y_ = (([1, 2, 3, 4] : List Int)) := ⟨_, rfl⟩
  replace H : ((some (([7] : List Int) : List Int)).bind fun y706 => ((packet_Write.f k true true false 96 0 0 0 ([] : List Int) 48862 y703 y706 2 23).bind fun bt710 => (if (bt710.1.length : Int) = 23 then ((packet_Read.f k bt710.1).bind fun bt714 => ((packet_Write.f k true true false 96 0 0 0 ([] : List Int) 48862 y703 y706 2 22).bind fun bt734 => ((some (([] : List Int) : List Int)).bind fun y738 => (if y738.length + bt710.1.length < 140737488355328 then ((some (y738 ++ bt710.1 : List Int)).bind fun y741 => (if 21 < (y741.length : Int) then (if bt710.2 = 0 then (if bt714.2.2.2.2.2.2.2.2.2.2.2.2 = 0 then (if bt734.2 = 7 then ((packet_Size.f k true true false 96 0 0 0 ([] : List Int) 48862 y703 y706 2).bind fun t745 => (if t745 = 23 then ((crossbarref06_Same.f k true true false 96 0 0 0 ([] : List Int) 48862 y703 y706 2 bt714.1 bt714.2.1 bt714.2.2.1 bt714.2.2.2.1 bt714.2.2.2.2.1 bt714.2.2.2.2.2.1 bt714.2.2.2.2.2.2.1 bt714.2.2.2.2.2.2.2.1 bt714.2.2.2.2.2.2.2.2.1 bt714.2.2.2.2.2.2.2.2.2.1 bt714.2.2.2.2.2.2.2.2.2.2.1 bt714.2.2.2.2.2.2.2.2.2.2.2.1).bind fun t746 => (if t746 = true then ((packet_Canon.f k bt710.1).bind fun t747 => (if t747 = true then ((packet_Canon.f k (y741.set (21 : Int).toNat 1)).bind fun t748 => (if t748 = true then (none) else ((packet_Right.f k true true false 96 0 0 0 ([] : List Int) 48862 y703 y706 2).bind fun t749 => (some t749)))) else (none))) else (none))) else (none))) else (none)) else (none)) else (none)) else (none))) else (none))))) else (none)))) = some r := by first | (rw [hy703]; with_reducible exact H) | (have H2_ := (Option.bind_some _ _).symm.trans H; rw [hy703]; with_reducible exact H2_) | (have H2_ := (Option.bind_some _ _).symm.trans H; with_reducible exact H2_) | with_reducible exact H | (rw [hy703]; exact H) | exact H
  have Ny703 := Aside0.mk hy703
  clear hy703
  obtain ⟨y706, hy706⟩ : ∃ y_ : List Int, y_ = (([7] : List Int)) := ⟨_, rfl⟩
  replace H : ((packet_Write.f k true true false 96 0 0 0 ([] : List Int) 48862 y703 y706 2 23).bind fun bt710 => (if (bt710.1.length : Int) = 23 then ((packet_Read.f k bt710.1).bind fun bt714 => ((packet_Write.f k true true false 96 0 0 0 ([] : List Int) 48862 y703 y706 2 22).bind fun bt734 => ((some (([] : List Int) : List Int)).bind fun y738 => (if y738.length + bt710.1.length < 140737488355328 then ((some (y738 ++ bt710.1 : List Int)).bind fun y741 => (if 21 < (y741.length : Int) then (if bt710.2 = 0 then (if bt714.2.2.2.2.2.2.2.2.2.2.2.2 = 0 then (if bt734.2 = 7 then ((packet_Size.f k true true false 96 0 0 0 ([] : List Int) 48862 y703 y706 2).bind fun t745 => (if t745 = 23 then ((crossbarref06_Same.f k true true false 96 0 0 0 ([] : List Int) 48862 y703 y706 2 bt714.1 bt714.2.1 bt714.2.2.1 bt714.2.2.2.1 bt714.2.2.2.2.1 bt714.2.2.2.2.2.1 bt714.2.2.2.2.2.2.1 bt714.2.2.2.2.2.2.2.1 bt714.2.2.2.2.2.2.2.2.1 bt714.2.2.2.2.2.2.2.2.2.1 bt714.2.2.2.2.2.2.2.2.2.2.1 bt714.2.2.2.2.2.2.2.2.2.2.2.1).bind fun t746 => (if t746 = true then ((packet_Canon.f k bt710.1).bind fun t747 => (if t747 = true then ((packet_Canon.f k (y741.set (21 : Int).toNat 1)).bind fun t748 => (if t748 = true then (none) else ((packet_Right.f k true true false 96 0 0 0 ([] : List Int) 48862 y703 y706 2).bind fun t749 => (some t749)))) else (none))) else (none))) else (none))) else (none)) else (none)) else (none)) else (none))) else (none))))) else (none))) = some r := by first | (rw [hy706]; with_reducible exact H) | (have H2_ := (Option.bind_some _ _).symm.trans H; rw [hy706]; with_reducible exact H2_) | (have H2_ := (Option.bind_some _ _).symm.trans H; with_reducible exact H2_) | with_reducible exact H | (rw [hy706]; exact H) | exact H
  have Ny706 := Aside0.mk hy706
  clear hy706
  replace H := Option.bind_eq_some_iff.mp H
  obtain ⟨⟨t710, t713⟩, A10, H⟩ := H
  replace H : (if (t710.length : Int) = 23 then ((packet_Read.f k t710).bind fun bt714 => ((packet_Write.f k true true false 96 0 0 0 ([] : List Int) 48862 y703 y706 2 22).bind fun bt734 => ((some (([] : List Int) : List Int)).bind fun y738 => (if y738.length + t710.length < 140737488355328 then ((some (y738 ++ t710 : List Int)).bind fun y741 => (if 21 < (y741.length : Int) then (if t713 = 0 then (if bt714.2.2.2.2.2.2.2.2.2.2.2.2 = 0 then (if bt734.2 = 7 then ((packet_Size.f k true true false 96 0 0 0 ([] : List Int) 48862 y703 y706 2).bind fun t745 => (if t745 = 23 then ((crossbarref06_Same.f k true true false 96 0 0 0 ([] : List Int) 48862 y703 y706 2 bt714.1 bt714.2.1 bt714.2.2.1 bt714.2.2.2.1 bt714.2.2.2.2.1 bt714.2.2.2.2.2.1 bt714.2.2.2.2.2.2.1 bt714.2.2.2.2.2.2.2.1 bt714.2.2.2.2.2.2.2.2.1 bt714.2.2.2.2.2.2.2.2.2.1 bt714.2.2.2.2.2.2.2.2.2.2.1 bt714.2.2.2.2.2.2.2.2.2.2.2.1).bind fun t746 => (if t746 = true then ((packet_Canon.f k t710).bind fun t747 => (if t747 = true then ((packet_Canon.f k (y741.set (21 : Int).toNat 1)).bind fun t748 => (if t748 = true then (none) else ((packet_Right.f k true true false 96 0 0 0 ([] : List Int) 48862 y703 y706 2).bind fun t749 => (some t749)))) else (none))) else (none))) else (none))) else (none)) else (none)) else (none)) else (none))) else (none))))) else (none)) = some r := H
  have A1 := Aside0.mk A10
  clear A10
  by_cases c2 : (t710.length : Int) = 23
  · rw [if_pos c2] at H
    have c2b0 : ((t710.length : Int) == 23) = true := beq_iff_eq.mpr c2
    have c2b1 : ((t710.length : Int) != 23) = false := bne_eq_false_iff_eq.mpr c2
    clear c2
    replace H := Option.bind_eq_some_iff.mp H
    obtain ⟨⟨t714, t715, t716, t717, t718, t719, t720, t721, t724, t725, t728, t731, t732⟩, A30, H⟩ := H
    replace H : ((packet_Write.f k true true false 96 0 0 0 ([] : List Int) 48862 y703 y706 2 22).bind fun bt734 => ((some (([] : List Int) : List Int)).bind fun y738 => (if y738.length + t710.length < 140737488355328 then ((some (y738 ++ t710 : List Int)).bind fun y741 => (if 21 < (y741.length : Int) then (if t713 = 0 then (if t732 = 0 then (if bt734.2 = 7 then ((packet_Size.f k true true false 96 0 0 0 ([] : List Int) 48862 y703 y706 2).bind fun t745 => (if t745 = 23 then ((crossbarref06_Same.f k true true false 96 0 0 0 ([] : List Int) 48862 y703 y706 2 t714 t715 t716 t717 t718 t719 t720 t721 t724 t725 t728 t731).bind fun t746 => (if t746 = true then ((packet_Canon.f k t710).bind fun t747 => (if t747 = true then ((packet_Canon.f k (y741.set (21 : Int).toNat 1)).bind fun t748 => (if t748 = true then (none) else ((packet_Right.f k true true false 96 0 0 0 ([] : List Int) 48862 y703 y706 2).bind fun t749 => (some t749)))) else (none))) else (none))) else (none))) else (none)) else (none)) else (none)) else (none))) else (none)))) = some r := H
    have A3 := Aside0.mk A30
    clear A30
    replace H := Option.bind_eq_some_iff.mp H
    obtain ⟨⟨t734, t737⟩, A40, H⟩ := H
    replace H : ((some (([] : List Int) : List Int)).bind fun y738 => (if y738.length + t710.length < 140737488355328 then ((some (y738 ++ t710 : List Int)).bind fun y741 => (if 21 < (y741.length : Int) then (if t713 = 0 then (if t732 = 0 then (if t737 = 7 then ((packet_Size.f k true true false 96 0 0 0 ([] : List Int) 48862 y703 y706 2).bind fun t745 => (if t745 = 23 then ((crossbarref06_Same.f k true true false 96 0 0 0 ([] : List Int) 48862 y703 y706 2 t714 t715 t716 t717 t718 t719 t720 t721 t724 t725 t728 t731).bind fun t746 => (if t746 = true then ((packet_Canon.f k t710).bind fun t747 => (if t747 = true then ((packet_Canon.f k (y741.set (21 : Int).toNat 1)).bind fun t748 => (if t748 = true then (none) else ((packet_Right.f k true true false 96 0 0 0 ([] : List Int) 48862 y703 y706 2).bind fun t749 => (some t749)))) else (none))) else (none))) else (none))) else (none)) else (none)) else (none)) else (none))) else (none))) = some r := H
    have A4 := Aside0.mk A40
    clear A40
    obtain ⟨y738, hy738⟩ : ∃ y_ : List Int, y_ = (([] : List Int)) := ⟨_, rfl⟩
    replace H : (if y738.length + t710.length < 140737488355328 then ((some (y738 ++ t710 : List Int)).bind fun y741 => (if 21 < (y741.length : Int) then (if t713 = 0 then (if t732 = 0 then (if t737 = 7 then ((packet_Size.f k true true false 96 0 0 0 ([] : List Int) 48862 y703 y706 2).bind fun t745 => (if t745 = 23 then ((crossbarref06_Same.f k true true false 96 0 0 0 ([] : List Int) 48862 y703 y706 2 t714 t715 t716 t717 t718 t719 t720 t721 t724 t725 t728 t731).bind fun t746 => (if t746 = true then ((packet_Canon.f k t710).bind fun t747 => (if t747 = true then ((packet_Canon.f k (y741.set (21 : Int).toNat 1)).bind fun t748 => (if t748 = true then (none) else ((packet_Right.f k true true false 96 0 0 0 ([] : List Int) 48862 y703 y706 2).bind fun t749 => (some t749)))) else (none))) else (none))) else (none))) else (none)) else (none)) else (none)) else (none))) else (none)) = some r := by first | (rw [hy738]; with_reducible exact H) | (have H2_ := (Option.bind_some _ _).symm.trans H; rw [hy738]; with_reducible exact H2_) | (have H2_ := (Option.bind_some _ _).symm.trans H; with_reducible exact H2_) | with_reducible exact H | (rw [hy738]; exact H) | exact H
    have Ny738 := Aside0.mk hy738
    clear hy738
    by_cases c5 : y738.length + t710.length < 140737488355328
    · rw [if_pos c5] at H
      have LMc5 := Aside0.mk c5
      clear c5
      obtain ⟨y741, hy741⟩ : ∃ y_ : List Int, y_ = (y738 ++ t710) := ⟨_, rfl⟩
      replace H : (if 21 < (y741.length : Int) then (if t713 = 0 then (if t732 = 0 then (if t737 = 7 then ((packet_Size.f k true true false 96 0 0 0 ([] : List Int) 48862 y703 y706 2).bind fun t745 => (if t745 = 23 then ((crossbarref06_Same.f k true true false 96 0 0 0 ([] : List Int) 48862 y703 y706 2 t714 t715 t716 t717 t718 t719 t720 t721 t724 t725 t728 t731).bind fun t746 => (if t746 = true then ((packet_Canon.f k t710).bind fun t747 => (if t747 = true then ((packet_Canon.f k (y741.set (21 : Int).toNat 1)).bind fun t748 => (if t748 = true then (none) else ((packet_Right.f k true true false 96 0 0 0 ([] : List Int) 48862 y703 y706 2).bind fun t749 => (some t749)))) else (none))) else (none))) else (none))) else (none)) else (none)) else (none)) else (none)) = some r := by first | (rw [hy741]; with_reducible exact H) | (have H2_ := (Option.bind_some _ _).symm.trans H; rw [hy741]; with_reducible exact H2_) | (have H2_ := (Option.bind_some _ _).symm.trans H; with_reducible exact H2_) | with_reducible exact H | (rw [hy741]; exact H) | exact H
      have Ny741 := Aside0.mk hy741
      clear hy741
      by_cases c6 : 21 < (y741.length : Int)
      · rw [if_pos c6] at H
        have c6b0 : decide (21 < (y741.length : Int)) = true := decide_eq_true c6
        have c6b1 : decide (21 < y741.length) = true := decide_eq_true (by omega)
        clear c6
        obtain ⟨y744, hy744⟩ : ∃ y_ : List Int, y_ = (y741.set (21 : Int).toNat 1) := ⟨_, rfl⟩
        replace H : (if t713 = 0 then (if t732 = 0 then (if t737 = 7 then ((packet_Size.f k true true false 96 0 0 0 ([] : List Int) 48862 y703 y706 2).bind fun t745 => (if t745 = 23 then ((crossbarref06_Same.f k true true false 96 0 0 0 ([] : List Int) 48862 y703 y706 2 t714 t715 t716 t717 t718 t719 t720 t721 t724 t725 t728 t731).bind fun t746 => (if t746 = true then ((packet_Canon.f k t710).bind fun t747 => (if t747 = true then ((packet_Canon.f k y744).bind fun t748 => (if t748 = true then (none) else ((packet_Right.f k true true false 96 0 0 0 ([] : List Int) 48862 y703 y706 2).bind fun t749 => (some t749)))) else (none))) else (none))) else (none))) else (none)) else (none)) else (none)) = some r := by first | (rw [hy744]; with_reducible exact H) | (have H2_ := (Option.bind_some _ _).symm.trans H; rw [hy744]; with_reducible exact H2_) | (have H2_ := (Option.bind_some _ _).symm.trans H; with_reducible exact H2_) | with_reducible exact H | (rw [hy744]; exact H) | exact H
        have Ny744 := Aside0.mk hy744
        clear hy744
        by_cases c8 : t713 = 0
        · rw [if_pos c8] at H
          have c8b0 : (t713 == 0) = true := beq_iff_eq.mpr c8
          have c8b1 : (t713 != 0) = false := bne_eq_false_iff_eq.mpr c8
          clear c8
          by_cases c9 : t732 = 0
          · rw [if_pos c9] at H
            have c9b0 : (t732 == 0) = true := beq_iff_eq.mpr c9
            have c9b1 : (t732 != 0) = false := bne_eq_false_iff_eq.mpr c9
            clear c9
            by_cases c10 : t737 = 7
            · rw [if_pos c10] at H
              have c10b0 : (t737 == 7) = true := beq_iff_eq.mpr c10
              have c10b1 : (t737 != 7) = false := bne_eq_false_iff_eq.mpr c10
              clear c10
              replace H := Option.bind_eq_some_iff.mp H
              obtain ⟨t745, A110, H⟩ := H
              replace H : (if t745 = 23 then ((crossbarref06_Same.f k true true false 96 0 0 0 ([] : List Int) 48862 y703 y706 2 t714 t715 t716 t717 t718 t719 t720 t721 t724 t725 t728 t731).bind fun t746 => (if t746 = true then ((packet_Canon.f k t710).bind fun t747 => (if t747 = true then ((packet_Canon.f k y744).bind fun t748 => (if t748 = true then (none) else ((packet_Right.f k true true false 96 0 0 0 ([] : List Int) 48862 y703 y706 2).bind fun t749 => (some t749)))) else (none))) else (none))) else (none)) = some r := H
              have A11 := Aside0.mk A110
              clear A110
              by_cases c12 : t745 = 23
              · rw [if_pos c12] at H
                have c12b0 : (t745 == 23) = true := beq_iff_eq.mpr c12
                have c12b1 : (t745 != 23) = false := bne_eq_false_iff_eq.mpr c12
                clear c12
                replace H := Option.bind_eq_some_iff.mp H
                obtain ⟨t746, A130, H⟩ := H
                replace H : (if t746 = true then ((packet_Canon.f k t710).bind fun t747 => (if t747 = true then ((packet_Canon.f k y744).bind fun t748 => (if t748 = true then (none) else ((packet_Right.f k true true false 96 0 0 0 ([] : List Int) 48862 y703 y706 2).bind fun t749 => (some t749)))) else (none))) else (none)) = some r := H
                have A13 := Aside0.mk A130
                clear A130
                by_cases c14 : t746 = true
                · subst c14
                  have H1 : ((packet_Canon.f k t710).bind fun t747 => (if t747 = true then ((packet_Canon.f k y744).bind fun t748 => (if t748 = true then (none) else ((packet_Right.f k true true false 96 0 0 0 ([] : List Int) 48862 y703 y706 2).bind fun t749 => (some t749)))) else (none))) = some r := by rw [if_pos rfl] at H; exact H
                  clear H
                  have H := H1
                  clear H1
                  replace H := Option.bind_eq_some_iff.mp H
                  obtain ⟨t747, A150, H⟩ := H
                  replace H : (if t747 = true then ((packet_Canon.f k y744).bind fun t748 => (if t748 = true then (none) else ((packet_Right.f k true true false 96 0 0 0 ([] : List Int) 48862 y703 y706 2).bind fun t749 => (some t749)))) else (none)) = some r := H
                  have A15 := Aside0.mk A150
                  clear A150
                  by_cases c16 : t747 = true
                  · subst c16
                    have H1 : ((packet_Canon.f k y744).bind fun t748 => (if t748 = true then (none) else ((packet_Right.f k true true false 96 0 0 0 ([] : List Int) 48862 y703 y706 2).bind fun t749 => (some t749)))) = some r := by rw [if_pos rfl] at H; exact H
                    clear H
                    have H := H1
                    clear H1
                    replace H := Option.bind_eq_some_iff.mp H
                    obtain ⟨t748, A170, H⟩ := H
                    replace H : (if t748 = true then (none) else ((packet_Right.f k true true false 96 0 0 0 ([] : List Int) 48862 y703 y706 2).bind fun t749 => (some t749))) = some r := H
                    have A17 := Aside0.mk A170
                    clear A170
                    by_cases c18 : t748 = true
                    · subst c18
                      have H1 : (none) = some r := by rw [if_pos rfl] at H; exact H
                      clear H
                      have H := H1
                      clear H1
                      exact absurd H (by simp)
                    replace c18 := Bool.eq_false_iff.mpr c18
                    subst c18
                    have H1 : ((packet_Right.f k true true false 96 0 0 0 ([] : List Int) 48862 y703 y706 2).bind fun t749 => (some t749)) = some r := by rw [if_neg (show ¬ (false = true) by decide)] at H; exact H
                    clear H
                    have H := H1
                    clear H1
                    replace H := Option.bind_eq_some_iff.mp H
                    obtain ⟨t749, A190, H⟩ := H
                    replace H : (some t749) = some r := H
                    have A19 := Aside0.mk A190
                    clear A190
                    obtain rfl := Option.some.inj H
                    go_enter Try.func19, Try.ntmps19
                    go_wp2_with (first | ((with_reducible refine gate_dst (N := 10) rfl ?_); refine Kd.R_lit (Kd.int .u8) _ 5 ?hg (N := 10) ?hd (xs := ([1, 2, 3, 4] : List Int)) (inner := [.int .u8 1, .int .u8 2, .int .u8 3, .int .u8 4]) (ok := fun _ => True) (okp := fun _ => True) ?hr ?hp (fun _ hk => hk) trivial (Below.refl _ _) (Nat.le_refl _) (by simp) ?_; (case hd => rfl); (case hg => rfl); (case hr => first | (go_simp; done) | (go_simp; rfl)); (case hp => exact (Reps.one (show Kd.M (Kd.int .u8) _ _ _ 1 [.int .u8 1] from rfl) (Reps.one (show Kd.M (Kd.int .u8) _ _ _ 2 [.int .u8 2] from rfl) (Reps.one (show Kd.M (Kd.int .u8) _ _ _ 3 [.int .u8 3] from rfl) (Reps.one (show Kd.M (Kd.int .u8) _ _ _ 4 [.int .u8 4] from rfl) (Reps.none _ _)))))); intro v704 w20 ho21 hb hg_ hnew_; clear hg_ hnew_; (first | rw [← Ny703.out] at ho21 | (simp only [Int.reduceToNat] at ho21; rw [← Ny703.out] at ho21)); have HO705 := Aside0.mk (Kd.R_lower ho21 (below_size (pB HB))); replace HB := bstE HB hb; clear hb ho21) | ((with_reducible refine gate_dst (N := 11) rfl ?_); refine Kd.R_lit (Kd.int .u8) _ 5 ?hg (N := 11) ?hd (xs := ([7] : List Int)) (inner := [.int .u8 7]) (ok := fun _ => True) (okp := fun _ => True) ?hr ?hp (fun _ hk => hk) trivial (Below.refl _ _) (Nat.le_refl _) (by simp) ?_; (case hd => rfl); (case hg => rfl); (case hr => first | (go_simp; done) | (go_simp; rfl)); (case hp => exact (Reps.one (show Kd.M (Kd.int .u8) _ _ _ 7 [.int .u8 7] from rfl) (Reps.none _ _))); intro v707 w22 ho23 hb hg_ hnew_; clear hg_ hnew_; (first | rw [← Ny706.out] at ho23 | (simp only [Int.reduceToNat] at ho23; rw [← Ny706.out] at ho23)); have n0_ := Aside0.mk (Kd.R_elder' (pR HO705) (Kd.R_base ho23) hb); have HO708 := Aside0.mk (Kd.R_lower (Kd.R_new' ho23 (Kd.R_lt (pR HO705))) (below_size (pB HB))); replace HB := bstE HB hb; clear HO705; have HO705 := n0_; clear n0_; clear hb ho23; obtain ⟨Ao24, co24, eo24⟩ := Kd.R_slice HO708.out; subst eo24; obtain ⟨Ao25, co25, eo25⟩ := Kd.R_slice HO705.out; subst eo25) | ((with_reducible refine gate_dst (N := 1) rfl ?_); refine box_event ?hg (N := 1) ?hd (cs := #[.bool false, .bool false, .bool false, .int .i64 0, .int .u16 0, .int .u32 0, .int .u32 0, .slice none 0 0, .int .u16 0, .slice none 0 0, .slice none 0 0, .int .i64 0]) (t := 45) ?hr ?_; (case hd => rfl); (case hg => rfl); (case hr => first | (go_simp; done) | (go_simp; rfl)); intro gb709 hg w26 hbox hb; replace HO705 := rbE HO705 hb; replace HO708 := rbE HO708 hb; have n2_ := bstE HB hb; have BK709 := Aside0.mk (hbox); have GW709 := geE hg HB; have GE709 := geE hg HB; clear HB; have HB := n2_; clear n2_; clear hb hbox hg; obtain ⟨hcz27_0, hcz27_1, hcz27_2, hcz27_3, hcz27_4, hcz27_5, hcz27_6, hcz27_7, hcz27_8, hcz27_9, hcz27_10, hcz27_11, hfz27_0, hfz27_1, hfz27_2, hfz27_3, hfz27_4, hfz27_5, hfz27_6, hfz27_7, hfz27_8, hfz27_9, hfz27_10, hfz27_11⟩ := bc12 BK709.out) | ((with_reducible refine gate_store (t := 45) (p := 1) rfl ?_); refine store_event (t := 45) (p := 1) (v := ?vo_w28) (w1 := ((((((((((((w26.setCell ⟨gb709, 0, none⟩ (.bool true)).setCell ⟨gb709, 1, none⟩ (.bool true)).setCell ⟨gb709, 2, none⟩ (.bool false)).setCell ⟨gb709, 3, none⟩ (.int .i64 96)).setCell ⟨gb709, 4, none⟩ (.int .u16 0)).setCell ⟨gb709, 5, none⟩ (.int .u32 0)).setCell ⟨gb709, 6, none⟩ (.int .u32 0)).setCell ⟨gb709, 7, none⟩ (.slice none 0 0)).setCell ⟨gb709, 8, none⟩ (.int .u16 48862)).setCell ⟨gb709, 9, none⟩ (.slice Ao25 y703.length co25)).setCell ⟨gb709, 10, none⟩ (.slice Ao24 y706.length co24)).setCell ⟨gb709, 11, none⟩ (.int .i64 2))) ?hg ?ho ?hn ?hr ?_; (case ho => rfl); (case hg => rfl); (case hn => rfl); (case hr => first | (go_simp; done) | (go_simp; rfl)); intro w28 hw; replace HO705 : Aside0 (Kd.R (Kd.int .u8) 5 w28 w.heap.size (fun k_ => some k_ ≠ (.slice Ao24 y706.length co24 : Value).ownBlock) (.slice Ao25 y703.length co25) y703) := ⟨(by rw [hw]; exact (by (with_reducible repeat (first | apply Kd.R_alloc | apply Kd.R_drewN | apply Kd.R_drew)); exact Kd.R_mono (Kd.R_far (p := ⟨gb709, 11, none⟩) (Kd.R_far (p := ⟨gb709, 10, none⟩) (Kd.R_far (p := ⟨gb709, 9, none⟩) (Kd.R_far (p := ⟨gb709, 8, none⟩) (Kd.R_far (p := ⟨gb709, 7, none⟩) (Kd.R_far (p := ⟨gb709, 6, none⟩) (Kd.R_far (p := ⟨gb709, 5, none⟩) (Kd.R_far (p := ⟨gb709, 4, none⟩) (Kd.R_far (p := ⟨gb709, 3, none⟩) (Kd.R_far (p := ⟨gb709, 2, none⟩) (Kd.R_far (p := ⟨gb709, 1, none⟩) (Kd.R_far (p := ⟨gb709, 0, none⟩) (Kd.R_types HO705.out BK709.out (by decide)) (fun _ hk => hk.2) (.bool true)) (fun _ hk => hk.2) (.bool true)) (fun _ hk => hk.2) (.bool false)) (fun _ hk => hk.2) (.int .i64 96)) (fun _ hk => hk.2) (.int .u16 0)) (fun _ hk => hk.2) (.int .u32 0)) (fun _ hk => hk.2) (.int .u32 0)) (fun _ hk => hk.2) (.slice none 0 0)) (fun _ hk => hk.2) (.int .u16 48862)) (fun _ hk => hk.2) (.slice Ao25 y703.length co25)) (fun _ hk => hk.2) (.slice Ao24 y706.length co24)) (fun _ hk => hk.2) (.int .i64 2)) (fun _ hk => hk.1.2)))⟩; replace HO708 : Aside0 (Kd.R (Kd.int .u8) 5 w28 w.heap.size (fun k_ => some k_ ≠ (.slice Ao25 y703.length co25 : Value).ownBlock) (.slice Ao24 y706.length co24) y706) := ⟨(by rw [hw]; exact (by (with_reducible repeat (first | apply Kd.R_alloc | apply Kd.R_drewN | apply Kd.R_drew)); exact Kd.R_mono (Kd.R_far (p := ⟨gb709, 11, none⟩) (Kd.R_far (p := ⟨gb709, 10, none⟩) (Kd.R_far (p := ⟨gb709, 9, none⟩) (Kd.R_far (p := ⟨gb709, 8, none⟩) (Kd.R_far (p := ⟨gb709, 7, none⟩) (Kd.R_far (p := ⟨gb709, 6, none⟩) (Kd.R_far (p := ⟨gb709, 5, none⟩) (Kd.R_far (p := ⟨gb709, 4, none⟩) (Kd.R_far (p := ⟨gb709, 3, none⟩) (Kd.R_far (p := ⟨gb709, 2, none⟩) (Kd.R_far (p := ⟨gb709, 1, none⟩) (Kd.R_far (p := ⟨gb709, 0, none⟩) (Kd.R_types HO708.out BK709.out (by decide)) (fun _ hk => hk.2) (.bool true)) (fun _ hk => hk.2) (.bool true)) (fun _ hk => hk.2) (.bool false)) (fun _ hk => hk.2) (.int .i64 96)) (fun _ hk => hk.2) (.int .u16 0)) (fun _ hk => hk.2) (.int .u32 0)) (fun _ hk => hk.2) (.int .u32 0)) (fun _ hk => hk.2) (.slice none 0 0)) (fun _ hk => hk.2) (.int .u16 48862)) (fun _ hk => hk.2) (.slice Ao25 y703.length co25)) (fun _ hk => hk.2) (.slice Ao24 y706.length co24)) (fun _ hk => hk.2) (.int .i64 2)) (fun _ hk => hk.1.2)))⟩; replace BK709 : Aside0 (w28.heap[gb709]? = some (.cells #[.bool true, .bool true, .bool false, .int .i64 96, .int .u16 0, .int .u32 0, .int .u32 0, .slice none 0 0, .int .u16 48862, .slice Ao25 y703.length co25, .slice Ao24 y706.length co24, .int .i64 2] 45 (0, 0))) := ⟨by rw [hw]; apply puts12; exact BK709.out⟩; replace HB := bsE hw HB GE709; clear hw; obtain ⟨hcz29_0, hcz29_1, hcz29_2, hcz29_3, hcz29_4, hcz29_5, hcz29_6, hcz29_7, hcz29_8, hcz29_9, hcz29_10, hcz29_11, hfz29_0, hfz29_1, hfz29_2, hfz29_3, hfz29_4, hfz29_5, hfz29_6, hfz29_7, hfz29_8, hfz29_9, hfz29_10, hfz29_11⟩ := bc12 BK709.out) | ((with_reducible refine gate_callee (f := 22) rfl ?_); refine goesL_ (some 15) rfl rfl Try.func22 (by kernel_rfl) rfl #[.agg #[.bool true, .bool true, .bool false, .int .i64 96, .int .u16 0, .int .u32 0, .int .u32 0, .slice none 0 0, .int .u16 48862, .slice Ao25 y703.length co25, .slice Ao24 y706.length co24, .int .i64 2], .int .i64 23] rfl (by (try simp only [List.map_toArray, List.map_cons, List.map_nil]); first | done | rfl | (simp only [List.length_drop, List.length_take]; rfl)) ?_; (refine (packet_Write.calls k true true false 96 0 0 0 _ _ ([] : List Int) 48862 (fun k_ => some k_ = (.slice Ao25 y703.length co25 : Value).ownBlock) _ _ y703 (fun k_ => some k_ = (.slice Ao24 y706.length co24 : Value).ownBlock) _ _ y706 2 23 t710 t713 _ ?side1 ?side2 ?side3 ?side4 A1.out).mono ?_); (case side1 => exact Kd.C_nil _ _); (case side2 => exact Nat.le_refl _); (case side3 => exact Kd.R_V (Kd.R_tight rfl (Kd.R_types (HO705.out) BK709.out (by decide)))); (case side4 => exact Kd.R_V (Kd.R_tight rfl (Kd.R_types (HO708.out) BK709.out (by decide)))); rintro e w30 ⟨v711, rfl, ho0, hb⟩; refine ⟨_, rfl, ?_⟩; have n0_ := Aside0.mk (Kd.R_elder' (pR HO705) (Kd.R_base ho0) hb); have n1_ := Aside0.mk (Kd.R_elder' (pR HO708) (Kd.R_base ho0) hb); have HO712 := Aside0.mk (Kd.R_lower (Kd.R_new' (Kd.R_new' (Kd.R_mono (ok' := fun k_ => True) ho0 (fun _ hk_ => trivial)) (Kd.R_lt (pR HO705))) (Kd.R_lt (pR HO708))) (below_size (pB HB))); replace BK709 := bbE BK709 hb; replace HB := bstE HB hb; clear HO705; clear HO708; have HO705 := n0_; have HO708 := n1_; clear n0_ n1_; (try clear hb); (try clear hb2); (try clear hk); (try clear hi); (try clear ho0); obtain ⟨Ao31, co31, eo31⟩ := Kd.R_slice HO712.out; subst eo31) | ((with_reducible refine gate_callee (f := 17) rfl ?_); refine goesL_ (some 23) rfl rfl Try.func17 (by kernel_rfl) rfl #[.slice Ao31 t710.length co31] rfl (by (try simp only [List.map_toArray, List.map_cons, List.map_nil]); first | done | rfl | (simp only [List.length_drop, List.length_take]; rfl)) ?_; (with_reducible refine (packet_Read.calls k _ _ t710 t714 t715 t716 t717 t718 t719 t720 t721 t724 t725 t728 t731 t732 _ ?side1 ?side2 A3.out).mono ?_); (case side1 => repeat (first | exact (Kd.R_reads' HO712.out).2.2 | (with_reducible refine Kd.C_alloc ?_ _) | (with_reducible refine Kd.C_drewN ?_ _) | (with_reducible refine Kd.C_drew ?_))); (case side2 => exact (Kd.R_reads' HO712.out).2.1); rintro e w32 ⟨v722, v726, v729, rfl, ho0, ho1, ho2, hb⟩; refine ⟨_, rfl, ?_⟩; have n0_ := Aside0.mk (Kd.R_mono (Kd.R_told (Kd.R_told (Kd.R_old (pR HO705) hb) (Kd.R_base ho1)) (Kd.R_base ho2)) (fun _ h_ => h_.1)); have n1_ := Aside0.mk (Kd.R_mono (Kd.R_told (Kd.R_told (Kd.R_old (pR HO708) hb) (Kd.R_base ho1)) (Kd.R_base ho2)) (fun _ h_ => h_.1)); have n2_ := Aside0.mk (Kd.R_mono (Kd.R_told (Kd.R_told (Kd.R_old (pR HO712) hb) (Kd.R_base ho1)) (Kd.R_base ho2)) (fun _ h_ => h_.1)); have HO723 := Aside0.mk (Kd.R_lower ho0 (below_size (pB HB))); have HO727 := Aside0.mk (Kd.R_lower (Kd.R_new' (Kd.R_new' (Kd.R_new' ho1 (Kd.R_lt (pR HO705))) (Kd.R_lt (pR HO708))) (Kd.R_lt (pR HO712))) (below_size (pB HB))); have HO730 := Aside0.mk (Kd.R_lower (Kd.R_new' (Kd.R_new' (Kd.R_new' ho2 (Kd.R_lt (pR HO705))) (Kd.R_lt (pR HO708))) (Kd.R_lt (pR HO712))) (below_size (pB HB))); replace BK709 := bbE BK709 hb; replace HB := bstE HB hb; clear HO705; clear HO708; clear HO712; have HO705 := n0_; have HO708 := n1_; have HO712 := n2_; clear n0_ n1_ n2_; (try clear hb); (try clear hb2); (try clear hk); (try clear hi); (try clear ho0); (try clear ho1); (try clear ho2)) | ((with_reducible refine gate_dst (N := 4) rfl ?_); refine box_event ?hg (N := 4) ?hd (cs := #[.bool false, .bool false, .bool false, .int .i64 0, .int .u16 0, .int .u32 0, .int .u32 0, .slice none 0 0, .int .u16 0, .slice none 0 0, .slice none 0 0, .int .i64 0]) (t := 45) ?hr ?_; (case hd => rfl); (case hg => rfl); (case hr => first | (go_simp; done) | (go_simp; rfl)); intro gb733 hg w33 hbox hb; replace HO705 := rbE HO705 hb; replace HO708 := rbE HO708 hb; replace HO712 := rbE HO712 hb; replace HO723 := rbE HO723 hb; replace HO727 := rbE HO727 hb; replace HO730 := rbE HO730 hb; have n6_ := bbE BK709 hb; have n7_ := bstE HB hb; have BK733 := Aside0.mk (hbox); have GW733 := geE hg HB; have GE733 := geE hg HB; have NB709_733 := nlE hg BK709; have NB733_709 := ngE hg BK709; clear BK709; clear HB; have BK709 := n6_; have HB := n7_; clear n6_ n7_; clear hb hbox hg; have hnb34 := NB733_709.out; have hnc34 := NB709_733.out; obtain ⟨hcz35_0, hcz35_1, hcz35_2, hcz35_3, hcz35_4, hcz35_5, hcz35_6, hcz35_7, hcz35_8, hcz35_9, hcz35_10, hcz35_11, hfz35_0, hfz35_1, hfz35_2, hfz35_3, hfz35_4, hfz35_5, hfz35_6, hfz35_7, hfz35_8, hfz35_9, hfz35_10, hfz35_11⟩ := bc12 BK733.out; obtain ⟨Ao36, co36, eo36⟩ := Kd.R_slice HO723.out; subst eo36; obtain ⟨Ao37, co37, eo37⟩ := Kd.R_slice HO727.out; subst eo37; obtain ⟨Ao38, co38, eo38⟩ := Kd.R_slice HO730.out; subst eo38) | ((with_reducible refine gate_store (t := 45) (p := 4) rfl ?_); refine store_event (t := 45) (p := 4) (v := ?vo_w39) (w1 := ((((((((((((w33.setCell ⟨gb733, 0, none⟩ (.bool t714)).setCell ⟨gb733, 1, none⟩ (.bool t715)).setCell ⟨gb733, 2, none⟩ (.bool t716)).setCell ⟨gb733, 3, none⟩ (.int .i64 t717)).setCell ⟨gb733, 4, none⟩ (.int .u16 t718)).setCell ⟨gb733, 5, none⟩ (.int .u32 t719)).setCell ⟨gb733, 6, none⟩ (.int .u32 t720)).setCell ⟨gb733, 7, none⟩ (.slice Ao36 t721.length co36)).setCell ⟨gb733, 8, none⟩ (.int .u16 t724)).setCell ⟨gb733, 9, none⟩ (.slice Ao37 t725.length co37)).setCell ⟨gb733, 10, none⟩ (.slice Ao38 t728.length co38)).setCell ⟨gb733, 11, none⟩ (.int .i64 t731))) ?hg ?ho ?hn ?hr ?_; (case ho => rfl); (case hg => rfl); (case hn => rfl); (case hr => first | (go_simp; done) | (go_simp; rfl)); intro w39 hw; replace HO705 : Aside0 (Kd.R (Kd.int .u8) 5 w39 w.heap.size (fun k_ => some k_ ≠ (.slice Ao24 y706.length co24 : Value).ownBlock ∧ some k_ ≠ (.slice Ao31 t710.length co31 : Value).ownBlock ∧ some k_ ≠ (.slice Ao37 t725.length co37 : Value).ownBlock ∧ some k_ ≠ (.slice Ao38 t728.length co38 : Value).ownBlock) (.slice Ao25 y703.length co25) y703) := ⟨(by rw [hw]; exact (by (with_reducible repeat (first | apply Kd.R_alloc | apply Kd.R_drewN | apply Kd.R_drew)); exact Kd.R_mono (Kd.R_far (p := ⟨gb733, 11, none⟩) (Kd.R_far (p := ⟨gb733, 10, none⟩) (Kd.R_far (p := ⟨gb733, 9, none⟩) (Kd.R_far (p := ⟨gb733, 8, none⟩) (Kd.R_far (p := ⟨gb733, 7, none⟩) (Kd.R_far (p := ⟨gb733, 6, none⟩) (Kd.R_far (p := ⟨gb733, 5, none⟩) (Kd.R_far (p := ⟨gb733, 4, none⟩) (Kd.R_far (p := ⟨gb733, 3, none⟩) (Kd.R_far (p := ⟨gb733, 2, none⟩) (Kd.R_far (p := ⟨gb733, 1, none⟩) (Kd.R_far (p := ⟨gb733, 0, none⟩) (Kd.R_types HO705.out BK733.out (by decide)) (fun _ hk => hk.2) (.bool t714)) (fun _ hk => hk.2) (.bool t715)) (fun _ hk => hk.2) (.bool t716)) (fun _ hk => hk.2) (.int .i64 t717)) (fun _ hk => hk.2) (.int .u16 t718)) (fun _ hk => hk.2) (.int .u32 t719)) (fun _ hk => hk.2) (.int .u32 t720)) (fun _ hk => hk.2) (.slice Ao36 t721.length co36)) (fun _ hk => hk.2) (.int .u16 t724)) (fun _ hk => hk.2) (.slice Ao37 t725.length co37)) (fun _ hk => hk.2) (.slice Ao38 t728.length co38)) (fun _ hk => hk.2) (.int .i64 t731)) (fun _ hk => ⟨hk.1.1.1.1, ⟨hk.1.1.1.2, ⟨hk.1.1.2, hk.1.2⟩⟩⟩)))⟩; replace HO708 : Aside0 (Kd.R (Kd.int .u8) 5 w39 w.heap.size (fun k_ => some k_ ≠ (.slice Ao25 y703.length co25 : Value).ownBlock ∧ some k_ ≠ (.slice Ao31 t710.length co31 : Value).ownBlock ∧ some k_ ≠ (.slice Ao37 t725.length co37 : Value).ownBlock ∧ some k_ ≠ (.slice Ao38 t728.length co38 : Value).ownBlock) (.slice Ao24 y706.length co24) y706) := ⟨(by rw [hw]; exact (by (with_reducible repeat (first | apply Kd.R_alloc | apply Kd.R_drewN | apply Kd.R_drew)); exact Kd.R_mono (Kd.R_far (p := ⟨gb733, 11, none⟩) (Kd.R_far (p := ⟨gb733, 10, none⟩) (Kd.R_far (p := ⟨gb733, 9, none⟩) (Kd.R_far (p := ⟨gb733, 8, none⟩) (Kd.R_far (p := ⟨gb733, 7, none⟩) (Kd.R_far (p := ⟨gb733, 6, none⟩) (Kd.R_far (p := ⟨gb733, 5, none⟩) (Kd.R_far (p := ⟨gb733, 4, none⟩) (Kd.R_far (p := ⟨gb733, 3, none⟩) (Kd.R_far (p := ⟨gb733, 2, none⟩) (Kd.R_far (p := ⟨gb733, 1, none⟩) (Kd.R_far (p := ⟨gb733, 0, none⟩) (Kd.R_types HO708.out BK733.out (by decide)) (fun _ hk => hk.2) (.bool t714)) (fun _ hk => hk.2) (.bool t715)) (fun _ hk => hk.2) (.bool t716)) (fun _ hk => hk.2) (.int .i64 t717)) (fun _ hk => hk.2) (.int .u16 t718)) (fun _ hk => hk.2) (.int .u32 t719)) (fun _ hk => hk.2) (.int .u32 t720)) (fun _ hk => hk.2) (.slice Ao36 t721.length co36)) (fun _ hk => hk.2) (.int .u16 t724)) (fun _ hk => hk.2) (.slice Ao37 t725.length co37)) (fun _ hk => hk.2) (.slice Ao38 t728.length co38)) (fun _ hk => hk.2) (.int .i64 t731)) (fun _ hk => ⟨hk.1.1.1.1, ⟨hk.1.1.1.2, ⟨hk.1.1.2, hk.1.2⟩⟩⟩)))⟩; replace HO712 : Aside0 (Kd.R (Kd.int .u8) 5 w39 w.heap.size (fun k_ => some k_ ≠ (.slice Ao25 y703.length co25 : Value).ownBlock ∧ some k_ ≠ (.slice Ao24 y706.length co24 : Value).ownBlock ∧ some k_ ≠ (.slice Ao37 t725.length co37 : Value).ownBlock ∧ some k_ ≠ (.slice Ao38 t728.length co38 : Value).ownBlock) (.slice Ao31 t710.length co31) t710) := ⟨(by rw [hw]; exact (by (with_reducible repeat (first | apply Kd.R_alloc | apply Kd.R_drewN | apply Kd.R_drew)); exact Kd.R_mono (Kd.R_far (p := ⟨gb733, 11, none⟩) (Kd.R_far (p := ⟨gb733, 10, none⟩) (Kd.R_far (p := ⟨gb733, 9, none⟩) (Kd.R_far (p := ⟨gb733, 8, none⟩) (Kd.R_far (p := ⟨gb733, 7, none⟩) (Kd.R_far (p := ⟨gb733, 6, none⟩) (Kd.R_far (p := ⟨gb733, 5, none⟩) (Kd.R_far (p := ⟨gb733, 4, none⟩) (Kd.R_far (p := ⟨gb733, 3, none⟩) (Kd.R_far (p := ⟨gb733, 2, none⟩) (Kd.R_far (p := ⟨gb733, 1, none⟩) (Kd.R_far (p := ⟨gb733, 0, none⟩) (Kd.R_types HO712.out BK733.out (by decide)) (fun _ hk => hk.2) (.bool t714)) (fun _ hk => hk.2) (.bool t715)) (fun _ hk => hk.2) (.bool t716)) (fun _ hk => hk.2) (.int .i64 t717)) (fun _ hk => hk.2) (.int .u16 t718)) (fun _ hk => hk.2) (.int .u32 t719)) (fun _ hk => hk.2) (.int .u32 t720)) (fun _ hk => hk.2) (.slice Ao36 t721.length co36)) (fun _ hk => hk.2) (.int .u16 t724)) (fun _ hk => hk.2) (.slice Ao37 t725.length co37)) (fun _ hk => hk.2) (.slice Ao38 t728.length co38)) (fun _ hk => hk.2) (.int .i64 t731)) (fun _ hk => ⟨hk.1.1.1.1.2, ⟨hk.1.1.1.2, ⟨hk.1.1.2, hk.1.2⟩⟩⟩)))⟩; replace HO723 := rfE hw HO723 BK733; replace HO727 : Aside0 (Kd.R (Kd.int .u8) 5 w39 w.heap.size (fun k_ => some k_ ≠ (.slice Ao25 y703.length co25 : Value).ownBlock ∧ some k_ ≠ (.slice Ao24 y706.length co24 : Value).ownBlock ∧ some k_ ≠ (.slice Ao31 t710.length co31 : Value).ownBlock ∧ some k_ ≠ (.slice Ao38 t728.length co38 : Value).ownBlock) (.slice Ao37 t725.length co37) t725) := ⟨(by rw [hw]; exact (by (with_reducible repeat (first | apply Kd.R_alloc | apply Kd.R_drewN | apply Kd.R_drew)); exact Kd.R_mono (Kd.R_far (p := ⟨gb733, 11, none⟩) (Kd.R_far (p := ⟨gb733, 10, none⟩) (Kd.R_far (p := ⟨gb733, 9, none⟩) (Kd.R_far (p := ⟨gb733, 8, none⟩) (Kd.R_far (p := ⟨gb733, 7, none⟩) (Kd.R_far (p := ⟨gb733, 6, none⟩) (Kd.R_far (p := ⟨gb733, 5, none⟩) (Kd.R_far (p := ⟨gb733, 4, none⟩) (Kd.R_far (p := ⟨gb733, 3, none⟩) (Kd.R_far (p := ⟨gb733, 2, none⟩) (Kd.R_far (p := ⟨gb733, 1, none⟩) (Kd.R_far (p := ⟨gb733, 0, none⟩) (Kd.R_types HO727.out BK733.out (by decide)) (fun _ hk => hk.2) (.bool t714)) (fun _ hk => hk.2) (.bool t715)) (fun _ hk => hk.2) (.bool t716)) (fun _ hk => hk.2) (.int .i64 t717)) (fun _ hk => hk.2) (.int .u16 t718)) (fun _ hk => hk.2) (.int .u32 t719)) (fun _ hk => hk.2) (.int .u32 t720)) (fun _ hk => hk.2) (.slice Ao36 t721.length co36)) (fun _ hk => hk.2) (.int .u16 t724)) (fun _ hk => hk.2) (.slice Ao37 t725.length co37)) (fun _ hk => hk.2) (.slice Ao38 t728.length co38)) (fun _ hk => hk.2) (.int .i64 t731)) (fun _ hk => ⟨hk.1.1.1.2, ⟨hk.1.1.2, ⟨hk.1.2, hk.1.1.1.1⟩⟩⟩)))⟩; replace HO730 : Aside0 (Kd.R (Kd.int .u8) 5 w39 w.heap.size (fun k_ => some k_ ≠ (.slice Ao25 y703.length co25 : Value).ownBlock ∧ some k_ ≠ (.slice Ao24 y706.length co24 : Value).ownBlock ∧ some k_ ≠ (.slice Ao31 t710.length co31 : Value).ownBlock ∧ some k_ ≠ (.slice Ao37 t725.length co37 : Value).ownBlock) (.slice Ao38 t728.length co38) t728) := ⟨(by rw [hw]; exact (by (with_reducible repeat (first | apply Kd.R_alloc | apply Kd.R_drewN | apply Kd.R_drew)); exact Kd.R_mono (Kd.R_far (p := ⟨gb733, 11, none⟩) (Kd.R_far (p := ⟨gb733, 10, none⟩) (Kd.R_far (p := ⟨gb733, 9, none⟩) (Kd.R_far (p := ⟨gb733, 8, none⟩) (Kd.R_far (p := ⟨gb733, 7, none⟩) (Kd.R_far (p := ⟨gb733, 6, none⟩) (Kd.R_far (p := ⟨gb733, 5, none⟩) (Kd.R_far (p := ⟨gb733, 4, none⟩) (Kd.R_far (p := ⟨gb733, 3, none⟩) (Kd.R_far (p := ⟨gb733, 2, none⟩) (Kd.R_far (p := ⟨gb733, 1, none⟩) (Kd.R_far (p := ⟨gb733, 0, none⟩) (Kd.R_types HO730.out BK733.out (by decide)) (fun _ hk => hk.2) (.bool t714)) (fun _ hk => hk.2) (.bool t715)) (fun _ hk => hk.2) (.bool t716)) (fun _ hk => hk.2) (.int .i64 t717)) (fun _ hk => hk.2) (.int .u16 t718)) (fun _ hk => hk.2) (.int .u32 t719)) (fun _ hk => hk.2) (.int .u32 t720)) (fun _ hk => hk.2) (.slice Ao36 t721.length co36)) (fun _ hk => hk.2) (.int .u16 t724)) (fun _ hk => hk.2) (.slice Ao37 t725.length co37)) (fun _ hk => hk.2) (.slice Ao38 t728.length co38)) (fun _ hk => hk.2) (.int .i64 t731)) (fun _ hk => ⟨hk.1.1.1.2, ⟨hk.1.1.2, ⟨hk.1.2, hk.1.1.1.1⟩⟩⟩)))⟩; replace BK709 := bfE hw BK709 NB709_733; replace BK733 : Aside0 (w39.heap[gb733]? = some (.cells #[.bool t714, .bool t715, .bool t716, .int .i64 t717, .int .u16 t718, .int .u32 t719, .int .u32 t720, .slice Ao36 t721.length co36, .int .u16 t724, .slice Ao37 t725.length co37, .slice Ao38 t728.length co38, .int .i64 t731] 45 (0, 0))) := ⟨by rw [hw]; apply puts12; exact BK733.out⟩; replace HB := bsE hw HB GE733; clear hw; obtain ⟨hcz40_0, hcz40_1, hcz40_2, hcz40_3, hcz40_4, hcz40_5, hcz40_6, hcz40_7, hcz40_8, hcz40_9, hcz40_10, hcz40_11, hfz40_0, hfz40_1, hfz40_2, hfz40_3, hfz40_4, hfz40_5, hfz40_6, hfz40_7, hfz40_8, hfz40_9, hfz40_10, hfz40_11⟩ := bc12 BK709.out) | ((with_reducible refine gate_callee (f := 22) rfl ?_); refine goesL_ (some 28) rfl rfl Try.func22 (by kernel_rfl) rfl #[.agg #[.bool true, .bool true, .bool false, .int .i64 96, .int .u16 0, .int .u32 0, .int .u32 0, .slice none 0 0, .int .u16 48862, .slice Ao25 y703.length co25, .slice Ao24 y706.length co24, .int .i64 2], .int .i64 22] rfl (by (try simp only [List.map_toArray, List.map_cons, List.map_nil]); first | done | rfl | (simp only [List.length_drop, List.length_take]; rfl)) ?_; (refine (packet_Write.calls k true true false 96 0 0 0 _ _ ([] : List Int) 48862 (fun k_ => some k_ = (.slice Ao25 y703.length co25 : Value).ownBlock) _ _ y703 (fun k_ => some k_ = (.slice Ao24 y706.length co24 : Value).ownBlock) _ _ y706 2 22 t734 t737 _ ?side1 ?side2 ?side3 ?side4 A4.out).mono ?_); (case side1 => exact Kd.C_nil _ _); (case side2 => exact Nat.le_refl _); (case side3 => exact Kd.R_V (Kd.R_tight rfl (Kd.R_types (Kd.R_types (Kd.R_apart' (HO705.out) (Kd.R_typed HO723.out) (by decide)) BK709.out (by decide)) BK733.out (by decide)))); (case side4 => exact Kd.R_V (Kd.R_tight rfl (Kd.R_types (Kd.R_types (Kd.R_apart' (HO708.out) (Kd.R_typed HO723.out) (by decide)) BK709.out (by decide)) BK733.out (by decide)))); rintro e w41 ⟨v735, rfl, ho0, hb⟩; refine ⟨_, rfl, ?_⟩; have n0_ := Aside0.mk (Kd.R_elder' (pR HO705) (Kd.R_base ho0) hb); have n1_ := Aside0.mk (Kd.R_elder' (pR HO708) (Kd.R_base ho0) hb); have n2_ := Aside0.mk (Kd.R_elder' (pR HO712) (Kd.R_base ho0) hb); replace HO723 := rbE HO723 hb; have n4_ := Aside0.mk (Kd.R_elder' (pR HO727) (Kd.R_base ho0) hb); have n5_ := Aside0.mk (Kd.R_elder' (pR HO730) (Kd.R_base ho0) hb); have HO736 := Aside0.mk (Kd.R_lower (Kd.R_new' (Kd.R_new' (Kd.R_new' (Kd.R_new' (Kd.R_new' (Kd.R_mono (ok' := fun k_ => True) ho0 (fun _ hk_ => trivial)) (Kd.R_lt (pR HO705))) (Kd.R_lt (pR HO708))) (Kd.R_lt (pR HO712))) (Kd.R_lt (pR HO727))) (Kd.R_lt (pR HO730))) (below_size (pB HB))); replace BK709 := bbE BK709 hb; replace BK733 := bbE BK733 hb; replace HB := bstE HB hb; clear HO705; clear HO708; clear HO712; clear HO727; clear HO730; have HO705 := n0_; have HO708 := n1_; have HO712 := n2_; have HO727 := n4_; have HO730 := n5_; clear n0_ n1_ n2_ n4_ n5_; (try clear hb); (try clear hb2); (try clear hk); (try clear hi); (try clear ho0)) | ((with_reducible refine gate_dst (N := 31) rfl ?_); refine Kd.R_lit (Kd.int .u8) _ 5 ?hg (N := 31) ?hd (xs := ([] : List Int)) (inner := []) (ok := fun _ => True) (okp := fun _ => True) ?hr ?hp (fun _ hk => hk) trivial (Below.refl _ _) (Nat.le_refl _) (by simp) ?_; (case hd => rfl); (case hg => rfl); (case hr => first | (go_simp; done) | (go_simp; rfl)); (case hp => exact (Reps.none _ _)); intro v739 w42 ho43 hb hg_ hnew_; clear hg_ hnew_; (first | rw [← Ny738.out] at ho43 | (simp only [Int.reduceToNat] at ho43; rw [← Ny738.out] at ho43)); have n0_ := Aside0.mk (Kd.R_elder' (pR HO705) (Kd.R_base ho43) hb); have n1_ := Aside0.mk (Kd.R_elder' (pR HO708) (Kd.R_base ho43) hb); have n2_ := Aside0.mk (Kd.R_elder' (pR HO712) (Kd.R_base ho43) hb); replace HO723 := rbE HO723 hb; have n4_ := Aside0.mk (Kd.R_elder' (pR HO727) (Kd.R_base ho43) hb); have n5_ := Aside0.mk (Kd.R_elder' (pR HO730) (Kd.R_base ho43) hb); have n6_ := Aside0.mk (Kd.R_elder' (pR HO736) (Kd.R_base ho43) hb); have HO740 := Aside0.mk (Kd.R_lower (Kd.R_new' (Kd.R_new' (Kd.R_new' (Kd.R_new' (Kd.R_new' (Kd.R_new' ho43 (Kd.R_lt (pR HO705))) (Kd.R_lt (pR HO708))) (Kd.R_lt (pR HO712))) (Kd.R_lt (pR HO727))) (Kd.R_lt (pR HO730))) (Kd.R_lt (pR HO736))) (below_size (pB HB))); replace BK709 := bbE BK709 hb; replace BK733 := bbE BK733 hb; replace HB := bstE HB hb; clear HO705; clear HO708; clear HO712; clear HO727; clear HO730; clear HO736; have HO705 := n0_; have HO708 := n1_; have HO712 := n2_; have HO727 := n4_; have HO730 := n5_; have HO736 := n6_; clear n0_ n1_ n2_ n4_ n5_ n6_; clear hb ho43) | ((with_reducible refine gate_builtin (b := .append) (xs := #[.tmp 31, .tmp 32]) rfl ?_); at_builtin; refine Kd.R_append_rows (Kd.int .u8) (w0 := w) w.heap.size rfl (.tmp 31) (.tmp 32) 22 5 (.int .u8 0) 1 rfl Try.underlying22 info5 rfl (by decide) (by omega) v739 y738 t710 _ _ _ (fun k_ => some k_ ≠ (.slice Ao25 y703.length co25 : Value).ownBlock ∧ some k_ ≠ (.slice Ao24 y706.length co24 : Value).ownBlock ∧ some k_ ≠ (.slice Ao31 t710.length co31 : Value).ownBlock ∧ some k_ ≠ (.slice Ao37 t725.length co37 : Value).ownBlock ∧ some k_ ≠ (.slice Ao38 t728.length co38 : Value).ownBlock ∧ some k_ ≠ (v735 : Value).ownBlock) (fun _ => False) rfl rfl ?aO ?aR (fun _ _ h => h) (fun _ h => h.elim) ?aF ?aB ?aS ?aL ?_; (case aR => repeat (first | exact (Kd.R_reads' HO712.out).2.2 | (with_reducible refine Kd.C_alloc ?_ _) | (with_reducible refine Kd.C_drewN ?_ _) | (with_reducible refine Kd.C_drew ?_))); (case aB => exact (pB HB)); (case aF => exact (fun k_ hk => ⟨Kd.fresh' (Kd.R_lt (pR HO705)) k_ hk, Kd.fresh' (Kd.R_lt (pR HO708)) k_ hk, Kd.fresh' (Kd.R_lt (pR HO712)) k_ hk, Kd.fresh' (Kd.R_lt (pR HO727)) k_ hk, Kd.fresh' (Kd.R_lt (pR HO730)) k_ hk, Kd.fresh' (Kd.R_lt (pR HO736)) k_ hk⟩)); (case aO => exact (by (with_reducible repeat (first | apply Kd.R_alloc | apply Kd.R_drewN | apply Kd.R_drew)); exact Kd.R_mono HO740.out (fun _ hk => ⟨hk.1.1.1.1.1.2, ⟨hk.1.1.1.1.2, ⟨hk.1.1.1.2, ⟨hk.1.1.2, ⟨hk.1.2, hk.2⟩⟩⟩⟩⟩))); (case aS => exact (below_size (pB HB))); (case aL => have := LMc5.out; omega); intro v742 w44 ho hb hg hat; rw [← Ny741.out] at ho; replace HO705 := Aside0.mk (Kd.R_after (ok := (fun k_ => some k_ ≠ (.slice Ao24 y706.length co24 : Value).ownBlock ∧ some k_ ≠ (.slice Ao31 t710.length co31 : Value).ownBlock ∧ some k_ ≠ (.slice Ao37 t725.length co37 : Value).ownBlock ∧ some k_ ≠ (.slice Ao38 t728.length co38 : Value).ownBlock ∧ some k_ ≠ (v735 : Value).ownBlock)) (by (with_reducible repeat (first | apply Kd.R_alloc | apply Kd.R_drewN | apply Kd.R_drew)); exact Kd.R_mono HO705.out (fun _ hk => ⟨⟨hk.1.1.1, ⟨hk.1.1.2.1, ⟨hk.1.1.2.2.1, ⟨hk.1.1.2.2.2, hk.1.2⟩⟩⟩⟩, hk.2⟩)) hg hat); replace HO708 := Aside0.mk (Kd.R_after (ok := (fun k_ => some k_ ≠ (.slice Ao25 y703.length co25 : Value).ownBlock ∧ some k_ ≠ (.slice Ao31 t710.length co31 : Value).ownBlock ∧ some k_ ≠ (.slice Ao37 t725.length co37 : Value).ownBlock ∧ some k_ ≠ (.slice Ao38 t728.length co38 : Value).ownBlock ∧ some k_ ≠ (v735 : Value).ownBlock)) (by (with_reducible repeat (first | apply Kd.R_alloc | apply Kd.R_drewN | apply Kd.R_drew)); exact Kd.R_mono HO708.out (fun _ hk => ⟨⟨hk.1.1.1, ⟨hk.1.1.2.1, ⟨hk.1.1.2.2.1, ⟨hk.1.1.2.2.2, hk.1.2⟩⟩⟩⟩, hk.2⟩)) hg hat); replace BK709 := Aside0.mk (blk_grown (g := gb709) (o := .cells #[.bool true, .bool true, .bool false, .int .i64 96, .int .u16 0, .int .u32 0, .int .u32 0, .slice none 0 0, .int .u16 48862, .slice Ao25 y703.length co25, .slice Ao24 y706.length co24, .int .i64 2] 45 (0, 0)) (pk BK709) hg (Kd.R_ne HO740.out BK709.out (by decide))); replace HO712 := Aside0.mk (Kd.R_after (ok := (fun k_ => some k_ ≠ (.slice Ao25 y703.length co25 : Value).ownBlock ∧ some k_ ≠ (.slice Ao24 y706.length co24 : Value).ownBlock ∧ some k_ ≠ (.slice Ao37 t725.length co37 : Value).ownBlock ∧ some k_ ≠ (.slice Ao38 t728.length co38 : Value).ownBlock ∧ some k_ ≠ (v735 : Value).ownBlock)) (by (with_reducible repeat (first | apply Kd.R_alloc | apply Kd.R_drewN | apply Kd.R_drew)); exact Kd.R_mono HO712.out (fun _ hk => ⟨⟨hk.1.1.1, ⟨hk.1.1.2.1, ⟨hk.1.1.2.2.1, ⟨hk.1.1.2.2.2, hk.1.2⟩⟩⟩⟩, hk.2⟩)) hg hat); replace HO723 := Aside0.mk (Kd.R_over' (pR HO723) (Kd.R_typed (pR HO740)) (by decide) hg); replace HO727 := Aside0.mk (Kd.R_after (ok := (fun k_ => some k_ ≠ (.slice Ao25 y703.length co25 : Value).ownBlock ∧ some k_ ≠ (.slice Ao24 y706.length co24 : Value).ownBlock ∧ some k_ ≠ (.slice Ao31 t710.length co31 : Value).ownBlock ∧ some k_ ≠ (.slice Ao38 t728.length co38 : Value).ownBlock ∧ some k_ ≠ (v735 : Value).ownBlock)) (by (with_reducible repeat (first | apply Kd.R_alloc | apply Kd.R_drewN | apply Kd.R_drew)); exact Kd.R_mono HO727.out (fun _ hk => ⟨⟨hk.1.1.1, ⟨hk.1.1.2.1, ⟨hk.1.1.2.2.1, ⟨hk.1.1.2.2.2, hk.1.2⟩⟩⟩⟩, hk.2⟩)) hg hat); replace HO730 := Aside0.mk (Kd.R_after (ok := (fun k_ => some k_ ≠ (.slice Ao25 y703.length co25 : Value).ownBlock ∧ some k_ ≠ (.slice Ao24 y706.length co24 : Value).ownBlock ∧ some k_ ≠ (.slice Ao31 t710.length co31 : Value).ownBlock ∧ some k_ ≠ (.slice Ao37 t725.length co37 : Value).ownBlock ∧ some k_ ≠ (v735 : Value).ownBlock)) (by (with_reducible repeat (first | apply Kd.R_alloc | apply Kd.R_drewN | apply Kd.R_drew)); exact Kd.R_mono HO730.out (fun _ hk => ⟨⟨hk.1.1.1, ⟨hk.1.1.2.1, ⟨hk.1.1.2.2.1, ⟨hk.1.1.2.2.2, hk.1.2⟩⟩⟩⟩, hk.2⟩)) hg hat); replace BK733 := Aside0.mk (blk_grown (g := gb733) (o := .cells #[.bool t714, .bool t715, .bool t716, .int .i64 t717, .int .u16 t718, .int .u32 t719, .int .u32 t720, .slice Ao36 t721.length co36, .int .u16 t724, .slice Ao37 t725.length co37, .slice Ao38 t728.length co38, .int .i64 t731] 45 (0, 0)) (pk BK733) hg (Kd.R_ne HO740.out BK733.out (by decide))); replace HO736 := Aside0.mk (Kd.R_after (ok := (fun k_ => some k_ ≠ (.slice Ao25 y703.length co25 : Value).ownBlock ∧ some k_ ≠ (.slice Ao24 y706.length co24 : Value).ownBlock ∧ some k_ ≠ (.slice Ao31 t710.length co31 : Value).ownBlock ∧ some k_ ≠ (.slice Ao37 t725.length co37 : Value).ownBlock ∧ some k_ ≠ (.slice Ao38 t728.length co38 : Value).ownBlock)) (by (with_reducible repeat (first | apply Kd.R_alloc | apply Kd.R_drewN | apply Kd.R_drew)); exact Kd.R_mono HO736.out (fun _ hk => ⟨⟨hk.1.1.1.1.1.2, ⟨hk.1.1.1.1.2, ⟨hk.1.1.1.2, ⟨hk.1.1.2, hk.1.2⟩⟩⟩⟩, hk.2⟩)) hg hat); replace HB := Aside0.mk (hb); have HO743 := Aside0.mk (ho); clear HO740; clear ho hb hg hat; have p7 : 0 ≤ (21 : Int) := (by omega); have q7 : (21 : Int) < ((y741.length : Int) : Int) := of_decide_eq_true (by first | (with_reducible assumption) | assumption); have qi7 : (21 < y741.length) = True := eq_true (by omega); obtain ⟨go7, co7, eo7, gb7, gl7, cl7, HG7⟩ := Kd.R_form HO743.out (by omega); (first | cases eo7 | (injection eo7 with ea_ en_ ec_; (first | subst ea_ | (injection ea_ with ea_; subst ea_)); subst ec_; clear en_)); have GB7 := Aside0.mk gb7; have GG7 := Aside0.mk HG7; clear gb7 gl7 HG7; obtain ⟨hx7_0, hf7_0⟩ := Kd.R_celln 0 HO743.out (21 : Int) p7 q7; (try rw [show ((21 : Int)).toNat = 21 from rfl] at hx7_0); (try simp only [Nat.reduceMul, Nat.zero_mul, Nat.zero_add, Nat.reduceAdd] at hx7_0); (try rw [show ((21 : Int)).toNat = 21 from rfl] at hf7_0); (try simp only [Nat.reduceMul, Nat.zero_mul, Nat.zero_add, Nat.reduceAdd] at hf7_0); replace p7 := eq_true p7; replace q7 := eq_true q7; obtain ⟨hy45_, hz45_⟩ := Kd.R_celln 0 HO743.out (21 : Int) (by omega) (oT (by first | (with_reducible assumption) | assumption)); (try simp only [Int.reduceToNat, Int.toNat_zero, Int.toNat_ofNat, Nat.reduceMul, Nat.zero_mul, Nat.zero_add] at hy45_ hz45_); (try rw [show ((21 : Int)).toNat = 21 from rfl] at hy45_); (try rw [show ((21 : Int)).toNat = 21 from rfl] at hz45_); have HP45 := Kd.R_putg HO743.out (21 : Int) 1) | ((with_reducible refine gate_store (t := 5) (p := 35) rfl ?_); refine store_event (t := 5) (p := 35) (v := ?vo_w46) (w1 := (w44.setCell ⟨go7, (21 : Int).toNat, none⟩ (.int .u8 1))) ?hg ?ho ?hn ?hr ?_; (case ho => rfl); (case hg => rfl); (case hn => rfl); (case hr => first | (go_simp; done) | (go_simp; rfl)); intro w46 hw; have hg : w44.grownBy w46 (some go7) := (by rw [hw]; exact HP45.2); have hp_ : Kd.R (Kd.int .u8) 5 w46 w.heap.size (fun k_ => some k_ ≠ (.slice Ao25 y703.length co25 : Value).ownBlock ∧ some k_ ≠ (.slice Ao24 y706.length co24 : Value).ownBlock ∧ some k_ ≠ (.slice Ao31 t710.length co31 : Value).ownBlock ∧ some k_ ≠ (.slice Ao37 t725.length co37 : Value).ownBlock ∧ some k_ ≠ (.slice Ao38 t728.length co38 : Value).ownBlock ∧ some k_ ≠ (v735 : Value).ownBlock) (.slice (some ⟨go7, 0, none⟩) y741.length co7) y744 := (by rw [hw, Ny744.out]; exact HP45.1); clear HP45; replace HO705 := Aside0.mk (Kd.R_after (v := (.slice (some ⟨go7, 0, none⟩) y741.length co7)) (v1 := (.slice (some ⟨go7, 0, none⟩) y741.length co7)) (ok := (fun k_ => some k_ ≠ (.slice Ao24 y706.length co24 : Value).ownBlock ∧ some k_ ≠ (.slice Ao31 t710.length co31 : Value).ownBlock ∧ some k_ ≠ (.slice Ao37 t725.length co37 : Value).ownBlock ∧ some k_ ≠ (.slice Ao38 t728.length co38 : Value).ownBlock ∧ some k_ ≠ (v735 : Value).ownBlock)) (pR HO705) hg (.inl rfl)); replace HO708 := Aside0.mk (Kd.R_after (v := (.slice (some ⟨go7, 0, none⟩) y741.length co7)) (v1 := (.slice (some ⟨go7, 0, none⟩) y741.length co7)) (ok := (fun k_ => some k_ ≠ (.slice Ao25 y703.length co25 : Value).ownBlock ∧ some k_ ≠ (.slice Ao31 t710.length co31 : Value).ownBlock ∧ some k_ ≠ (.slice Ao37 t725.length co37 : Value).ownBlock ∧ some k_ ≠ (.slice Ao38 t728.length co38 : Value).ownBlock ∧ some k_ ≠ (v735 : Value).ownBlock)) (pR HO708) hg (.inl rfl)); replace BK709 := Aside0.mk (blk_grown (g := gb709) (o := .cells #[.bool true, .bool true, .bool false, .int .i64 96, .int .u16 0, .int .u32 0, .int .u32 0, .slice none 0 0, .int .u16 48862, .slice Ao25 y703.length co25, .slice Ao24 y706.length co24, .int .i64 2] 45 (0, 0)) (pk BK709) hg (Kd.R_ne HO743.out BK709.out (by decide))); replace HO712 := Aside0.mk (Kd.R_after (v := (.slice (some ⟨go7, 0, none⟩) y741.length co7)) (v1 := (.slice (some ⟨go7, 0, none⟩) y741.length co7)) (ok := (fun k_ => some k_ ≠ (.slice Ao25 y703.length co25 : Value).ownBlock ∧ some k_ ≠ (.slice Ao24 y706.length co24 : Value).ownBlock ∧ some k_ ≠ (.slice Ao37 t725.length co37 : Value).ownBlock ∧ some k_ ≠ (.slice Ao38 t728.length co38 : Value).ownBlock ∧ some k_ ≠ (v735 : Value).ownBlock)) (pR HO712) hg (.inl rfl)); replace HO723 := Aside0.mk (Kd.R_over' (v := (.slice (some ⟨go7, 0, none⟩) y741.length co7)) (pR HO723) (Kd.R_typed HO743.out) (by decide) hg); replace HO727 := Aside0.mk (Kd.R_after (v := (.slice (some ⟨go7, 0, none⟩) y741.length co7)) (v1 := (.slice (some ⟨go7, 0, none⟩) y741.length co7)) (ok := (fun k_ => some k_ ≠ (.slice Ao25 y703.length co25 : Value).ownBlock ∧ some k_ ≠ (.slice Ao24 y706.length co24 : Value).ownBlock ∧ some k_ ≠ (.slice Ao31 t710.length co31 : Value).ownBlock ∧ some k_ ≠ (.slice Ao38 t728.length co38 : Value).ownBlock ∧ some k_ ≠ (v735 : Value).ownBlock)) (pR HO727) hg (.inl rfl)); replace HO730 := Aside0.mk (Kd.R_after (v := (.slice (some ⟨go7, 0, none⟩) y741.length co7)) (v1 := (.slice (some ⟨go7, 0, none⟩) y741.length co7)) (ok := (fun k_ => some k_ ≠ (.slice Ao25 y703.length co25 : Value).ownBlock ∧ some k_ ≠ (.slice Ao24 y706.length co24 : Value).ownBlock ∧ some k_ ≠ (.slice Ao31 t710.length co31 : Value).ownBlock ∧ some k_ ≠ (.slice Ao37 t725.length co37 : Value).ownBlock ∧ some k_ ≠ (v735 : Value).ownBlock)) (pR HO730) hg (.inl rfl)); replace BK733 := Aside0.mk (blk_grown (g := gb733) (o := .cells #[.bool t714, .bool t715, .bool t716, .int .i64 t717, .int .u16 t718, .int .u32 t719, .int .u32 t720, .slice Ao36 t721.length co36, .int .u16 t724, .slice Ao37 t725.length co37, .slice Ao38 t728.length co38, .int .i64 t731] 45 (0, 0)) (pk BK733) hg (Kd.R_ne HO743.out BK733.out (by decide))); replace HO736 := Aside0.mk (Kd.R_after (v := (.slice (some ⟨go7, 0, none⟩) y741.length co7)) (v1 := (.slice (some ⟨go7, 0, none⟩) y741.length co7)) (ok := (fun k_ => some k_ ≠ (.slice Ao25 y703.length co25 : Value).ownBlock ∧ some k_ ≠ (.slice Ao24 y706.length co24 : Value).ownBlock ∧ some k_ ≠ (.slice Ao31 t710.length co31 : Value).ownBlock ∧ some k_ ≠ (.slice Ao37 t725.length co37 : Value).ownBlock ∧ some k_ ≠ (.slice Ao38 t728.length co38 : Value).ownBlock)) (pR HO736) hg (.inl rfl)); replace HO743 := Aside0.mk (hp_); replace HB := Aside0.mk ((by rw [hw]; exact below_set (HB.out) GB7.out : Below w.heap.size w w46)); clear hg hw hp_; obtain ⟨hcz47_0, hcz47_1, hcz47_2, hcz47_3, hcz47_4, hcz47_5, hcz47_6, hcz47_7, hcz47_8, hcz47_9, hcz47_10, hcz47_11, hfz47_0, hfz47_1, hfz47_2, hfz47_3, hfz47_4, hfz47_5, hfz47_6, hfz47_7, hfz47_8, hfz47_9, hfz47_10, hfz47_11⟩ := bc12 BK709.out) | (go_at_call 23; (refine (packet_Size.calls k true true false 96 0 0 0 _ _ ([] : List Int) 48862 _ _ y703 _ _ y706 2 t745 _ ?side1 ?side2 ?side3 ?side4 ?side5 ?side6 A11.out).mono ?_); (case side1 => exact Kd.C_nil _ _); (case side2 => exact Nat.le_refl _); (case side3 => repeat (first | exact (Kd.R_reads' HO705.out).2.2 | (with_reducible refine Kd.C_alloc ?_ _) | (with_reducible refine Kd.C_drewN ?_ _) | (with_reducible refine Kd.C_drew ?_))); (case side4 => exact (Kd.R_reads' HO705.out).2.1); (case side5 => repeat (first | exact (Kd.R_reads' HO708.out).2.2 | (with_reducible refine Kd.C_alloc ?_ _) | (with_reducible refine Kd.C_drewN ?_ _) | (with_reducible refine Kd.C_drew ?_))); (case side6 => exact (Kd.R_reads' HO708.out).2.1); rintro e w48 ⟨rfl, hb⟩; replace HO705 := rbE HO705 hb; replace HO708 := rbE HO708 hb; replace HO712 := rbE HO712 hb; replace HO723 := rbE HO723 hb; replace HO727 := rbE HO727 hb; replace HO730 := rbE HO730 hb; replace HO736 := rbE HO736 hb; replace HO743 := rbE HO743 hb; replace BK709 := bbE BK709 hb; replace BK733 := bbE BK733 hb; replace HB := bstE HB hb; (try clear hb); (try clear hb2); (try clear hk); (try clear hi); obtain ⟨hcz49_0, hcz49_1, hcz49_2, hcz49_3, hcz49_4, hcz49_5, hcz49_6, hcz49_7, hcz49_8, hcz49_9, hcz49_10, hcz49_11, hfz49_0, hfz49_1, hfz49_2, hfz49_3, hfz49_4, hfz49_5, hfz49_6, hfz49_7, hfz49_8, hfz49_9, hfz49_10, hfz49_11⟩ := bc12 BK709.out; obtain ⟨hcz50_0, hcz50_1, hcz50_2, hcz50_3, hcz50_4, hcz50_5, hcz50_6, hcz50_7, hcz50_8, hcz50_9, hcz50_10, hcz50_11, hfz50_0, hfz50_1, hfz50_2, hfz50_3, hfz50_4, hfz50_5, hfz50_6, hfz50_7, hfz50_8, hfz50_9, hfz50_10, hfz50_11⟩ := bc12 BK733.out) | (go_at_call 18; (refine (crossbarref06_Same.calls k true true false 96 0 0 0 _ _ ([] : List Int) 48862 _ _ y703 _ _ y706 2 t714 t715 t716 t717 t718 t719 t720 _ _ t721 t724 _ _ t725 _ _ t728 t731 true _ ?side1 ?side2 ?side3 ?side4 ?side5 ?side6 ?side7 ?side8 ?side9 ?side10 ?side11 ?side12 A13.out).mono ?_); (case side1 => exact Kd.C_nil _ _); (case side2 => exact Nat.le_refl _); (case side3 => repeat (first | exact (Kd.R_reads' HO705.out).2.2 | (with_reducible refine Kd.C_alloc ?_ _) | (with_reducible refine Kd.C_drewN ?_ _) | (with_reducible refine Kd.C_drew ?_))); (case side4 => exact (Kd.R_reads' HO705.out).2.1); (case side5 => repeat (first | exact (Kd.R_reads' HO708.out).2.2 | (with_reducible refine Kd.C_alloc ?_ _) | (with_reducible refine Kd.C_drewN ?_ _) | (with_reducible refine Kd.C_drew ?_))); (case side6 => exact (Kd.R_reads' HO708.out).2.1); (case side7 => repeat (first | exact (Kd.R_reads' HO723.out).2.2 | (with_reducible refine Kd.C_alloc ?_ _) | (with_reducible refine Kd.C_drewN ?_ _) | (with_reducible refine Kd.C_drew ?_))); (case side8 => exact (Kd.R_reads' HO723.out).2.1); (case side9 => repeat (first | exact (Kd.R_reads' HO727.out).2.2 | (with_reducible refine Kd.C_alloc ?_ _) | (with_reducible refine Kd.C_drewN ?_ _) | (with_reducible refine Kd.C_drew ?_))); (case side10 => exact (Kd.R_reads' HO727.out).2.1); (case side11 => repeat (first | exact (Kd.R_reads' HO730.out).2.2 | (with_reducible refine Kd.C_alloc ?_ _) | (with_reducible refine Kd.C_drewN ?_ _) | (with_reducible refine Kd.C_drew ?_))); (case side12 => exact (Kd.R_reads' HO730.out).2.1); rintro e w51 ⟨rfl, hb⟩; replace HO705 := rbE HO705 hb; replace HO708 := rbE HO708 hb; replace HO712 := rbE HO712 hb; replace HO723 := rbE HO723 hb; replace HO727 := rbE HO727 hb; replace HO730 := rbE HO730 hb; replace HO736 := rbE HO736 hb; replace HO743 := rbE HO743 hb; replace BK709 := bbE BK709 hb; replace BK733 := bbE BK733 hb; replace HB := bstE HB hb; (try clear hb); (try clear hb2); (try clear hk); (try clear hi)) | (go_at_call 28; (with_reducible refine (packet_Canon.calls k _ _ t710 true _ ?side1 ?side2 A15.out).mono ?_); (case side1 => repeat (first | exact (Kd.R_reads' HO712.out).2.2 | (with_reducible refine Kd.C_alloc ?_ _) | (with_reducible refine Kd.C_drewN ?_ _) | (with_reducible refine Kd.C_drew ?_))); (case side2 => exact (Kd.R_reads' HO712.out).2.1); rintro e w52 ⟨rfl, hb⟩; replace HO705 := rbE HO705 hb; replace HO708 := rbE HO708 hb; replace HO712 := rbE HO712 hb; replace HO723 := rbE HO723 hb; replace HO727 := rbE HO727 hb; replace HO730 := rbE HO730 hb; replace HO736 := rbE HO736 hb; replace HO743 := rbE HO743 hb; replace BK709 := bbE BK709 hb; replace BK733 := bbE BK733 hb; replace HB := bstE HB hb; (try clear hb); (try clear hb2); (try clear hk); (try clear hi)) | (go_at_call 28; refine calls_of_args (args' := #[.slice (some ⟨go7, 0, none⟩) y744.length co7]) (by first | (rw [show y744.length = y741.length from (Kd.R_reads' HO743.out).1.symm] <;> rfl) | rfl) ?_; (with_reducible refine (packet_Canon.calls k _ _ y744 false _ ?side1 ?side2 A17.out).mono ?_); (case side1 => repeat (first | exact (Kd.R_reads' HO743.out).2.2 | (with_reducible refine Kd.C_alloc ?_ _) | (with_reducible refine Kd.C_drewN ?_ _) | (with_reducible refine Kd.C_drew ?_))); (case side2 => rw [show y744.length = y741.length from (Kd.R_reads' HO743.out).1.symm]; exact (Kd.R_reads' HO743.out).2.1); rintro e w53 ⟨rfl, hb⟩; replace HO705 := rbE HO705 hb; replace HO708 := rbE HO708 hb; replace HO712 := rbE HO712 hb; replace HO723 := rbE HO723 hb; replace HO727 := rbE HO727 hb; replace HO730 := rbE HO730 hb; replace HO736 := rbE HO736 hb; replace HO743 := rbE HO743 hb; replace BK709 := bbE BK709 hb; replace BK733 := bbE BK733 hb; replace HB := bstE HB hb; (try clear hb); (try clear hb2); (try clear hk); (try clear hi); obtain ⟨hcz54_0, hcz54_1, hcz54_2, hcz54_3, hcz54_4, hcz54_5, hcz54_6, hcz54_7, hcz54_8, hcz54_9, hcz54_10, hcz54_11, hfz54_0, hfz54_1, hfz54_2, hfz54_3, hfz54_4, hfz54_5, hfz54_6, hfz54_7, hfz54_8, hfz54_9, hfz54_10, hfz54_11⟩ := bc12 BK709.out) | (go_at_call 27; (refine (packet_Right.calls k true true false 96 0 0 0 _ _ ([] : List Int) 48862 _ _ y703 _ _ y706 2 t749 _ ?side1 ?side2 ?side3 ?side4 ?side5 ?side6 A19.out).mono ?_); (case side1 => exact Kd.C_nil _ _); (case side2 => exact Nat.le_refl _); (case side3 => repeat (first | exact (Kd.R_reads' HO705.out).2.2 | (with_reducible refine Kd.C_alloc ?_ _) | (with_reducible refine Kd.C_drewN ?_ _) | (with_reducible refine Kd.C_drew ?_))); (case side4 => exact (Kd.R_reads' HO705.out).2.1); (case side5 => repeat (first | exact (Kd.R_reads' HO708.out).2.2 | (with_reducible refine Kd.C_alloc ?_ _) | (with_reducible refine Kd.C_drewN ?_ _) | (with_reducible refine Kd.C_drew ?_))); (case side6 => exact (Kd.R_reads' HO708.out).2.1); rintro e w55 ⟨rfl, hb⟩; replace HO705 := rbE HO705 hb; replace HO708 := rbE HO708 hb; replace HO712 := rbE HO712 hb; replace HO723 := rbE HO723 hb; replace HO727 := rbE HO727 hb; replace HO730 := rbE HO730 hb; replace HO736 := rbE HO736 hb; replace HO743 := rbE HO743 hb; replace BK709 := bbE BK709 hb; replace BK733 := bbE BK733 hb; replace HB := bstE HB hb; (try clear hb); (try clear hb2); (try clear hk); (try clear hi)))
                    go_ret
                    exact ⟨by first | rfl | (simp [errW_none, errW_some] <;> rfl) | (simp [*, errW_none, errW_some] <;> rfl), by repeat (first | (with_reducible first | exact HB.out | apply below_alloc | apply pw_below_drewN | apply below_drew1 | refine below_set ?_ GE709.out | refine below_set ?_ GE733.out) | exact HB.out)⟩
                  replace c16 := Bool.eq_false_iff.mpr c16
                  subst c16
                  have H1 : (none) = some r := by rw [if_neg (show ¬ (false = true) by decide)] at H; exact H
                  clear H
                  have H := H1
                  clear H1
                  exact absurd H (by simp)
                replace c14 := Bool.eq_false_iff.mpr c14
                subst c14
                have H1 : (none) = some r := by rw [if_neg (show ¬ (false = true) by decide)] at H; exact H
                clear H
                have H := H1
                clear H1
                exact absurd H (by simp)
              rw [if_neg c12] at H
              exact absurd H (by simp)
            rw [if_neg c10] at H
            exact absurd H (by simp)
          rw [if_neg c9] at H
          exact absurd H (by simp)
        rw [if_neg c8] at H
        exact absurd H (by simp)
      rw [if_neg c6] at H
      exact absurd H (by simp)
    rw [if_neg c5] at H
    exact absurd H (by simp)
  rw [if_neg c2] at H
  exact absurd H (by simp)
end Go.Proofs.Ytcbdgknfkoodoaa.F
namespace Go.Proofs.Ytcbdgknfkoodoaa.F
open Go.RowKit Go.Proofs.YtcbdgknfkoodoaaW.PrintWords Go.Proofs.YtcbdgknfkoodoaaW.PrintLast Go.Proofs.YtcbdgknfkoodoaaW.PrintMore
attribute [local go_sem] max2_int min2_int max_two min_two max_three min_three max_four min_four   
set_option linter.unusedVariables false
set_option linter.unusedSimpArgs false
def crossbarref06_Short.f (a0_0 : Bool) (a0_1 : Bool) (a0_2 : Bool) (a0_3 : Int) (a0_4 : Int) (a0_5 : Int) (a0_6 : Int) (l0_7 : List Int) (a0_8 : Int) (l0_9 : List Int) (l0_10 : List Int) (a0_11 : Int) : Option (Bool) := if (l0_7.length : Int) ≤ 99 then (if (l0_9.length : Int) ≤ 300000 then (some (decide ((l0_10.length : Int) ≤ 70000))) else (some false)) else (some false)
set_option maxHeartbeats 8000000 in
set_option maxRecDepth 100000 in
theorem crossbarref06_Short.calls (a0_0 : Bool) (a0_1 : Bool) (a0_2 : Bool) (a0_3 : Int) (a0_4 : Int) (a0_5 : Int) (a0_6 : Int) (A0_7 : Option Addr) (c0_7 : Nat) (l0_7 : List Int) (a0_8 : Int) (A0_9 : Option Addr) (c0_9 : Nat) (l0_9 : List Int) (A0_10 : Option Addr) (c0_10 : Nat) (l0_10 : List Int) (a0_11 : Int) (r : Bool) (w : World) (hr0_7 : Kd.C (Kd.int .u32) w A0_7 l0_7.length l0_7) (hc0_7 : l0_7.length ≤ c0_7) (hr0_9 : Kd.C (Kd.int .u8) w A0_9 l0_9.length l0_9) (hc0_9 : l0_9.length ≤ c0_9) (hr0_10 : Kd.C (Kd.int .u8) w A0_10 l0_10.length l0_10) (hc0_10 : l0_10.length ≤ c0_10) (h : crossbarref06_Short.f a0_0 a0_1 a0_2 a0_3 a0_4 a0_5 a0_6 l0_7 a0_8 l0_9 l0_10 a0_11 = some r) :
    Calls Try.prog 20 #[.agg #[.bool a0_0, .bool a0_1, .bool a0_2, .int .i64 a0_3, .int .u16 a0_4, .int .u32 a0_5, .int .u32 a0_6, .slice A0_7 l0_7.length c0_7, .int .u16 a0_8, .slice A0_9 l0_9.length c0_9, .slice A0_10 l0_10.length c0_10, .int .i64 a0_11]] w fun e w' => e = .returned (.bool r) ∧ Below w.heap.size w w' := by
  have hu45 := Try.underlying45
  have HR0_7 := Aside0.mk hr0_7
  have HC0_7 := Aside0.mk hc0_7
  clear hr0_7 hc0_7
  have HR0_9 := Aside0.mk hr0_9
  have HC0_9 := Aside0.mk hc0_9
  clear hr0_9 hc0_9
  have HR0_10 := Aside0.mk hr0_10
  have HC0_10 := Aside0.mk hc0_10
  clear hr0_10 hc0_10
  have HB := Aside0.mk (Below.refl w.heap.size w)
  have H : (if (l0_7.length : Int) ≤ 99 then (if (l0_9.length : Int) ≤ 300000 then (some (decide ((l0_10.length : Int) ≤ 70000))) else (some false)) else (some false)) = some r := h
  clear h
  by_cases c2 : (l0_7.length : Int) ≤ 99
  · rw [if_pos c2] at H
    have c2b0 : decide ((l0_7.length : Int) ≤ 99) = true := decide_eq_true c2
    have c2b1 : decide (l0_7.length ≤ 99) = true := decide_eq_true (by omega)
    clear c2
    by_cases c3 : (l0_9.length : Int) ≤ 300000
    · rw [if_pos c3] at H
      have c3b0 : decide ((l0_9.length : Int) ≤ 300000) = true := decide_eq_true c3
      have c3b1 : decide (l0_9.length ≤ 300000) = true := decide_eq_true (by omega)
      clear c3
      obtain rfl := Option.some.inj H
      go_enter Try.func20, Try.ntmps20
      go_wp2_with (first | ((with_reducible refine gate_dst (N := 1) rfl ?_); (try (refine gate_guard (by rfl) ?_; dsimp only)); refine box_event ?hg (N := 1) ?hd (cs := #[.bool a0_0, .bool a0_1, .bool a0_2, .int .i64 a0_3, .int .u16 a0_4, .int .u32 a0_5, .int .u32 a0_6, .slice A0_7 l0_7.length c0_7, .int .u16 a0_8, .slice A0_9 l0_9.length c0_9, .slice A0_10 l0_10.length c0_10, .int .i64 a0_11]) (t := 45) ?hr ?_; (case hd => rfl); (case hg => rfl); (case hr => first | (go_simp; done) | (go_simp; rfl)); intro gb750 hg w4 hbox hb; have n0_ := bstE HB hb; have BK750 := Aside0.mk (hbox); have GW750 := geE hg HB; have GE750 := geE hg HB; clear HB; have HB := n0_; clear n0_; clear hb hbox hg; obtain ⟨hcz5_0, hcz5_1, hcz5_2, hcz5_3, hcz5_4, hcz5_5, hcz5_6, hcz5_7, hcz5_8, hcz5_9, hcz5_10, hcz5_11, hfz5_0, hfz5_1, hfz5_2, hfz5_3, hfz5_4, hfz5_5, hfz5_6, hfz5_7, hfz5_8, hfz5_9, hfz5_10, hfz5_11⟩ := bc12 BK750.out))
      go_ret
      exact ⟨by first | rfl | (simp [errW_none, errW_some] <;> rfl) | (simp [*, errW_none, errW_some] <;> rfl), by repeat (first | (with_reducible first | exact HB.out | apply below_alloc | apply pw_below_drewN | apply below_drew1 | refine below_set ?_ GE750.out) | exact HB.out)⟩
    rw [if_neg c3] at H
    have c3b0 : decide ((l0_9.length : Int) ≤ 300000) = false := decide_eq_false c3
    have c3b1 : decide (l0_9.length ≤ 300000) = false := decide_eq_false (by omega)
    clear c3
    obtain rfl := Option.some.inj H
    go_enter Try.func20, Try.ntmps20
    go_wp2_with (first | ((with_reducible refine gate_dst (N := 1) rfl ?_); (try (refine gate_guard (by rfl) ?_; dsimp only)); refine box_event ?hg (N := 1) ?hd (cs := #[.bool a0_0, .bool a0_1, .bool a0_2, .int .i64 a0_3, .int .u16 a0_4, .int .u32 a0_5, .int .u32 a0_6, .slice A0_7 l0_7.length c0_7, .int .u16 a0_8, .slice A0_9 l0_9.length c0_9, .slice A0_10 l0_10.length c0_10, .int .i64 a0_11]) (t := 45) ?hr ?_; (case hd => rfl); (case hg => rfl); (case hr => first | (go_simp; done) | (go_simp; rfl)); intro gb750 hg w6 hbox hb; have n0_ := bstE HB hb; have BK750 := Aside0.mk (hbox); have GW750 := geE hg HB; have GE750 := geE hg HB; clear HB; have HB := n0_; clear n0_; clear hb hbox hg; obtain ⟨hcz7_0, hcz7_1, hcz7_2, hcz7_3, hcz7_4, hcz7_5, hcz7_6, hcz7_7, hcz7_8, hcz7_9, hcz7_10, hcz7_11, hfz7_0, hfz7_1, hfz7_2, hfz7_3, hfz7_4, hfz7_5, hfz7_6, hfz7_7, hfz7_8, hfz7_9, hfz7_10, hfz7_11⟩ := bc12 BK750.out))
    go_ret
    exact ⟨by first | rfl | (simp [errW_none, errW_some] <;> rfl) | (simp [*, errW_none, errW_some] <;> rfl), by repeat (first | (with_reducible first | exact HB.out | apply below_alloc | apply pw_below_drewN | apply below_drew1 | refine below_set ?_ GE750.out) | exact HB.out)⟩
  rw [if_neg c2] at H
  have c2b0 : decide ((l0_7.length : Int) ≤ 99) = false := decide_eq_false c2
  have c2b1 : decide (l0_7.length ≤ 99) = false := decide_eq_false (by omega)
  clear c2
  obtain rfl := Option.some.inj H
  go_enter Try.func20, Try.ntmps20
  go_wp2_with (first | ((with_reducible refine gate_dst (N := 1) rfl ?_); (try (refine gate_guard (by rfl) ?_; dsimp only)); refine box_event ?hg (N := 1) ?hd (cs := #[.bool a0_0, .bool a0_1, .bool a0_2, .int .i64 a0_3, .int .u16 a0_4, .int .u32 a0_5, .int .u32 a0_6, .slice A0_7 l0_7.length c0_7, .int .u16 a0_8, .slice A0_9 l0_9.length c0_9, .slice A0_10 l0_10.length c0_10, .int .i64 a0_11]) (t := 45) ?hr ?_; (case hd => rfl); (case hg => rfl); (case hr => first | (go_simp; done) | (go_simp; rfl)); intro gb750 hg w8 hbox hb; have n0_ := bstE HB hb; have BK750 := Aside0.mk (hbox); have GW750 := geE hg HB; have GE750 := geE hg HB; clear HB; have HB := n0_; clear n0_; clear hb hbox hg; obtain ⟨hcz9_0, hcz9_1, hcz9_2, hcz9_3, hcz9_4, hcz9_5, hcz9_6, hcz9_7, hcz9_8, hcz9_9, hcz9_10, hcz9_11, hfz9_0, hfz9_1, hfz9_2, hfz9_3, hfz9_4, hfz9_5, hfz9_6, hfz9_7, hfz9_8, hfz9_9, hfz9_10, hfz9_11⟩ := bc12 BK750.out))
  go_ret
  exact ⟨by first | rfl | (simp [errW_none, errW_some] <;> rfl) | (simp [*, errW_none, errW_some] <;> rfl), by repeat (first | (with_reducible first | exact HB.out | apply below_alloc | apply pw_below_drewN | apply below_drew1 | refine below_set ?_ GE750.out) | exact HB.out)⟩
end Go.Proofs.Ytcbdgknfkoodoaa.F
namespace Go.Proofs.Ytcbdgknfkoodoaa.F
open Go.RowKit Go.Proofs.YtcbdgknfkoodoaaW.PrintWords Go.Proofs.YtcbdgknfkoodoaaW.PrintLast Go.Proofs.YtcbdgknfkoodoaaW.PrintMore
attribute [local go_sem] max2_int min2_int max_two min_two max_three min_three max_four min_four   
set_option linter.unusedVariables false
set_option linter.unusedSimpArgs false
mutual
def crossbarlaw06_PacketBack.j0 : Nat → List Int → Bool → Bool → Bool → Bool → Int → Int → Int → Int → List Int → Int → List Int → List Int → Int → Option (Bool)
  | 0, _, _, _, _, _, _, _, _, _, _, _, _, _, _ => none
  | k + 1, x1, x24, x921000, x921001, x921002, x921003, x921004, x921005, x921006, x921007, x921008, x921009, x921010, x921011 => if x24 = true then (some true) else ((packet_Write.f k x921000 x921001 x921002 x921003 x921004 x921005 x921006 x921007 x921008 x921009 x921010 x921011 65535).bind fun bt923 => (if bt923.2 = 0 then ((packet_Read.f k bt923.1).bind fun bt927 => (if bt927.2.2.2.2.2.2.2.2.2.2.2.2 = 0 then ((crossbarref06_Same.f k x921000 x921001 x921002 x921003 x921004 x921005 x921006 x921007 x921008 x921009 x921010 x921011 bt927.1 bt927.2.1 bt927.2.2.1 bt927.2.2.2.1 bt927.2.2.2.2.1 bt927.2.2.2.2.2.1 bt927.2.2.2.2.2.2.1 bt927.2.2.2.2.2.2.2.1 bt927.2.2.2.2.2.2.2.2.1 bt927.2.2.2.2.2.2.2.2.2.1 bt927.2.2.2.2.2.2.2.2.2.2.1 bt927.2.2.2.2.2.2.2.2.2.2.2.1).bind fun t947 => (if t947 = true then ((packet_Canon.f k bt923.1).bind fun t948 => (if t948 = true then ((packet_Size.f k x921000 x921001 x921002 x921003 x921004 x921005 x921006 x921007 x921008 x921009 x921010 x921011).bind fun t949 => (if (bt923.1.length : Int) = t949 then (if (bt923.1.length : Int) > 65535 then (none) else (crossbarlaw06_PacketBack.j1 k x1)) else (none))) else (none))) else (none))) else (none))) else ((packet_Right.f k x921000 x921001 x921002 x921003 x921004 x921005 x921006 x921007 x921008 x921009 x921010 x921011).bind fun t950 => (if t950 = true then (none) else (crossbarlaw06_PacketBack.j1 k x1)))))
def crossbarlaw06_PacketBack.j1 : Nat → List Int → Option (Bool)
  | 0, _ => none
  | k + 1, x1 => (packet_Read.f k x1).bind fun bt951 => (if bt951.2.2.2.2.2.2.2.2.2.2.2.2 = 0 then ((packet_Write.f k bt951.1 bt951.2.1 bt951.2.2.1 bt951.2.2.2.1 bt951.2.2.2.2.1 bt951.2.2.2.2.2.1 bt951.2.2.2.2.2.2.1 bt951.2.2.2.2.2.2.2.1 bt951.2.2.2.2.2.2.2.2.1 bt951.2.2.2.2.2.2.2.2.2.1 bt951.2.2.2.2.2.2.2.2.2.2.1 bt951.2.2.2.2.2.2.2.2.2.2.2.1 (x1.length : Int)).bind fun bt973 => (if bt973.2 = 0 then ((packet_Right.f k bt951.1 bt951.2.1 bt951.2.2.1 bt951.2.2.2.1 bt951.2.2.2.2.1 bt951.2.2.2.2.2.1 bt951.2.2.2.2.2.2.1 bt951.2.2.2.2.2.2.2.1 bt951.2.2.2.2.2.2.2.2.1 bt951.2.2.2.2.2.2.2.2.2.1 bt951.2.2.2.2.2.2.2.2.2.2.1 bt951.2.2.2.2.2.2.2.2.2.2.2.1).bind fun t977 => (if t977 = true then (if (bt973.1.length : Int) = (x1.length : Int) then ((packet_Canon.f k x1).bind fun t978 => (crossbarlaw06_PacketBack.j2 k bt973.1 (t978 != ((strOfNums bt973.1).toList == (strOfNums x1).toList)) bt951.1 bt951.2.1 bt951.2.2.1 bt951.2.2.2.1 bt951.2.2.2.2.1 bt951.2.2.2.2.2.1 bt951.2.2.2.2.2.2.1 bt951.2.2.2.2.2.2.2.1 bt951.2.2.2.2.2.2.2.2.1 bt951.2.2.2.2.2.2.2.2.2.1 bt951.2.2.2.2.2.2.2.2.2.2.1 bt951.2.2.2.2.2.2.2.2.2.2.2.1)) else (crossbarlaw06_PacketBack.j2 k bt973.1 true bt951.1 bt951.2.1 bt951.2.2.1 bt951.2.2.2.1 bt951.2.2.2.2.1 bt951.2.2.2.2.2.1 bt951.2.2.2.2.2.2.1 bt951.2.2.2.2.2.2.2.1 bt951.2.2.2.2.2.2.2.2.1 bt951.2.2.2.2.2.2.2.2.2.1 bt951.2.2.2.2.2.2.2.2.2.2.1 bt951.2.2.2.2.2.2.2.2.2.2.2.1)) else (crossbarlaw06_PacketBack.j2 k bt973.1 true bt951.1 bt951.2.1 bt951.2.2.1 bt951.2.2.2.1 bt951.2.2.2.2.1 bt951.2.2.2.2.2.1 bt951.2.2.2.2.2.2.1 bt951.2.2.2.2.2.2.2.1 bt951.2.2.2.2.2.2.2.2.1 bt951.2.2.2.2.2.2.2.2.2.1 bt951.2.2.2.2.2.2.2.2.2.2.1 bt951.2.2.2.2.2.2.2.2.2.2.2.1))) else (crossbarlaw06_PacketBack.j2 k bt973.1 true bt951.1 bt951.2.1 bt951.2.2.1 bt951.2.2.2.1 bt951.2.2.2.2.1 bt951.2.2.2.2.2.1 bt951.2.2.2.2.2.2.1 bt951.2.2.2.2.2.2.2.1 bt951.2.2.2.2.2.2.2.2.1 bt951.2.2.2.2.2.2.2.2.2.1 bt951.2.2.2.2.2.2.2.2.2.2.1 bt951.2.2.2.2.2.2.2.2.2.2.2.1))) else ((packet_Canon.f k x1).bind fun t971 => (if t971 = true then (none) else ((crossbarref06_Same.f k bt951.1 bt951.2.1 bt951.2.2.1 bt951.2.2.2.1 bt951.2.2.2.2.1 bt951.2.2.2.2.2.1 bt951.2.2.2.2.2.2.1 bt951.2.2.2.2.2.2.2.1 bt951.2.2.2.2.2.2.2.2.1 bt951.2.2.2.2.2.2.2.2.2.1 bt951.2.2.2.2.2.2.2.2.2.2.1 bt951.2.2.2.2.2.2.2.2.2.2.2.1 false false false 0 0 0 0 ([] : List Int) 0 ([] : List Int) ([] : List Int) 0).bind fun t972 => (some t972)))))
def crossbarlaw06_PacketBack.j2 : Nat → List Int → Bool → Bool → Bool → Bool → Int → Int → Int → Int → List Int → Int → List Int → List Int → Int → Option (Bool)
  | 0, _, _, _, _, _, _, _, _, _, _, _, _, _, _ => none
  | k + 1, x11, x109, x971000, x971001, x971002, x971003, x971004, x971005, x971006, x971007, x971008, x971009, x971010, x971011 => if x109 = true then (none) else ((packet_Read.f k x11).bind fun bt979 => (if bt979.2.2.2.2.2.2.2.2.2.2.2.2 = 0 then ((crossbarref06_Same.f k x971000 x971001 x971002 x971003 x971004 x971005 x971006 x971007 x971008 x971009 x971010 x971011 bt979.1 bt979.2.1 bt979.2.2.1 bt979.2.2.2.1 bt979.2.2.2.2.1 bt979.2.2.2.2.2.1 bt979.2.2.2.2.2.2.1 bt979.2.2.2.2.2.2.2.1 bt979.2.2.2.2.2.2.2.2.1 bt979.2.2.2.2.2.2.2.2.2.1 bt979.2.2.2.2.2.2.2.2.2.2.1 bt979.2.2.2.2.2.2.2.2.2.2.2.1).bind fun t999 => (some t999)) else (none)))
end
def crossbarlaw06_PacketBack.f (k : Nat) (a0_0 : Bool) (a0_1 : Bool) (a0_2 : Bool) (a0_3 : Int) (a0_4 : Int) (a0_5 : Int) (a0_6 : Int) (l0_7 : List Int) (a0_8 : Int) (l0_9 : List Int) (l0_10 : List Int) (a0_11 : Int) (l1 : List Int) : Option (Bool) := (crossbarlaw06_awake.f k).bind fun t921 => (if t921 = true then ((crossbarref06_Short.f a0_0 a0_1 a0_2 a0_3 a0_4 a0_5 a0_6 l0_7 a0_8 l0_9 l0_10 a0_11).bind fun t922 => (if t922 = true then (crossbarlaw06_PacketBack.j0 k l1 (decide ((l1.length : Int) > 70000)) a0_0 a0_1 a0_2 a0_3 a0_4 a0_5 a0_6 l0_7 a0_8 l0_9 l0_10 a0_11) else (crossbarlaw06_PacketBack.j0 k l1 true a0_0 a0_1 a0_2 a0_3 a0_4 a0_5 a0_6 l0_7 a0_8 l0_9 l0_10 a0_11))) else (none))
def crossbarlaw06_PacketBack.T16 : Bool × List (List Nat × List Nat) := (true, [([], []), ([0], [0]), ([1], [1]), ([2], [2]), ([3, 2, 2], [2, 3]), ([4, 2], [2, 4]), ([2, 5], [2, 5]), ([6, 4], [6]), ([7], [7]), ([8, 7], [7, 8]), ([7], [7]), ([10, 7], [7, 10]), ([9, 11, 7], [7, 9, 11]), ([7, 12], [7, 12]), ([13, 7], [13]), ([14], [14]), ([15, 14, 14], [14, 15]), ([14], [14]), ([17, 14], [14, 17]), ([14], [14]), ([19, 14], [14, 19]), ([18, 20, 14], [14, 18, 20]), ([16, 21, 14], [14, 16, 21]), ([14, 22], [14, 22])])
def crossbarlaw06_PacketBack.B16 : List Nat := [0, 1, 3, 7, 15, 31, 63, 127, 255, 511, 255, 1279, 4095, 8191, 16383, 32767, 65535, 32767, 163839, 32767, 557055, 1998847, 4194303, 8388607]
theorem crossbarlaw06_PacketBack.tab16 : rtab .any (opsOf Try.f7 16) = crossbarlaw06_PacketBack.T16 := by kernel_rfl
theorem crossbarlaw06_PacketBack.bits16 : waitsOk crossbarlaw06_PacketBack.T16.2 crossbarlaw06_PacketBack.B16 = true := by kernel_rfl
set_option maxHeartbeats 8000000 in
set_option maxRecDepth 100000 in
theorem crossbarlaw06_PacketBack.calls (k : Nat) (a0_0 : Bool) (a0_1 : Bool) (a0_2 : Bool) (a0_3 : Int) (a0_4 : Int) (a0_5 : Int) (a0_6 : Int) (A0_7 : Option Addr) (c0_7 : Nat) (l0_7 : List Int) (a0_8 : Int) (A0_9 : Option Addr) (c0_9 : Nat) (l0_9 : List Int) (A0_10 : Option Addr) (c0_10 : Nat) (l0_10 : List Int) (a0_11 : Int) (A1 : Option Addr) (c1 : Nat) (l1 : List Int) (r : Bool) (w : World) (hr0_7 : Kd.C (Kd.int .u32) w A0_7 l0_7.length l0_7) (hc0_7 : l0_7.length ≤ c0_7) (hr0_9 : Kd.C (Kd.int .u8) w A0_9 l0_9.length l0_9) (hc0_9 : l0_9.length ≤ c0_9) (hr0_10 : Kd.C (Kd.int .u8) w A0_10 l0_10.length l0_10) (hc0_10 : l0_10.length ≤ c0_10) (hr1 : Kd.C (Kd.int .u8) w A1 l1.length l1) (hc1 : l1.length ≤ c1) (h : crossbarlaw06_PacketBack.f k a0_0 a0_1 a0_2 a0_3 a0_4 a0_5 a0_6 l0_7 a0_8 l0_9 l0_10 a0_11 l1 = some r) :
    Calls Try.prog 7 #[.agg #[.bool a0_0, .bool a0_1, .bool a0_2, .int .i64 a0_3, .int .u16 a0_4, .int .u32 a0_5, .int .u32 a0_6, .slice A0_7 l0_7.length c0_7, .int .u16 a0_8, .slice A0_9 l0_9.length c0_9, .slice A0_10 l0_10.length c0_10, .int .i64 a0_11], .slice A1 l1.length c1] w fun e w' => e = .returned (.bool r) ∧ Below w.heap.size w w' := by
  have hu45 := Try.underlying45
  have HR0_7 := Aside0.mk hr0_7
  have HC0_7 := Aside0.mk hc0_7
  clear hr0_7 hc0_7
  have HR0_9 := Aside0.mk hr0_9
  have HC0_9 := Aside0.mk hc0_9
  clear hr0_9 hc0_9
  have HR0_10 := Aside0.mk hr0_10
  have HC0_10 := Aside0.mk hc0_10
  clear hr0_10 hc0_10
  have HR1 := Aside0.mk hr1
  have HC1 := Aside0.mk hc1
  clear hr1 hc1
  have HB := Aside0.mk (Below.refl w.heap.size w)
  have H : ((crossbarlaw06_awake.f k).bind fun t921 => (if t921 = true then ((crossbarref06_Short.f a0_0 a0_1 a0_2 a0_3 a0_4 a0_5 a0_6 l0_7 a0_8 l0_9 l0_10 a0_11).bind fun t922 => (if t922 = true then (crossbarlaw06_PacketBack.j0 k l1 (decide ((l1.length : Int) > 70000)) a0_0 a0_1 a0_2 a0_3 a0_4 a0_5 a0_6 l0_7 a0_8 l0_9 l0_10 a0_11) else (crossbarlaw06_PacketBack.j0 k l1 true a0_0 a0_1 a0_2 a0_3 a0_4 a0_5 a0_6 l0_7 a0_8 l0_9 l0_10 a0_11))) else (none))) = some r := h
  clear h
  replace H := Option.bind_eq_some_iff.mp H
  obtain ⟨t921, A30, H⟩ := H
  replace H : (if t921 = true then ((crossbarref06_Short.f a0_0 a0_1 a0_2 a0_3 a0_4 a0_5 a0_6 l0_7 a0_8 l0_9 l0_10 a0_11).bind fun t922 => (if t922 = true then (crossbarlaw06_PacketBack.j0 k l1 (decide ((l1.length : Int) > 70000)) a0_0 a0_1 a0_2 a0_3 a0_4 a0_5 a0_6 l0_7 a0_8 l0_9 l0_10 a0_11) else (crossbarlaw06_PacketBack.j0 k l1 true a0_0 a0_1 a0_2 a0_3 a0_4 a0_5 a0_6 l0_7 a0_8 l0_9 l0_10 a0_11))) else (none)) = some r := H
  have A3 := Aside0.mk A30
  clear A30
  by_cases c4 : t921 = true
  · subst c4
    have H1 : ((crossbarref06_Short.f a0_0 a0_1 a0_2 a0_3 a0_4 a0_5 a0_6 l0_7 a0_8 l0_9 l0_10 a0_11).bind fun t922 => (if t922 = true then (crossbarlaw06_PacketBack.j0 k l1 (decide ((l1.length : Int) > 70000)) a0_0 a0_1 a0_2 a0_3 a0_4 a0_5 a0_6 l0_7 a0_8 l0_9 l0_10 a0_11) else (crossbarlaw06_PacketBack.j0 k l1 true a0_0 a0_1 a0_2 a0_3 a0_4 a0_5 a0_6 l0_7 a0_8 l0_9 l0_10 a0_11))) = some r := by rw [if_pos rfl] at H; exact H
    clear H
    have H := H1
    clear H1
    have HC5 := Aside0.mk H
    clear H
    go_enter Try.func7, Try.ntmps7
    go_upto_region 3 with (first | ((with_reducible refine gate_dst (N := 2) rfl ?_); (try (refine gate_guard (by rfl) ?_; dsimp only)); refine box_event ?hg (N := 2) ?hd (cs := #[.bool a0_0, .bool a0_1, .bool a0_2, .int .i64 a0_3, .int .u16 a0_4, .int .u32 a0_5, .int .u32 a0_6, .slice A0_7 l0_7.length c0_7, .int .u16 a0_8, .slice A0_9 l0_9.length c0_9, .slice A0_10 l0_10.length c0_10, .int .i64 a0_11]) (t := 45) ?hr ?_; (case hd => rfl); (case hg => rfl); (case hr => first | (go_simp; done) | (go_simp; rfl)); intro gb920 hg w6 hbox hb; have n0_ := bstE HB hb; have BK920 := Aside0.mk (hbox); have GW920 := geE hg HB; have GE920 := geE hg HB; clear HB; have HB := n0_; clear n0_; clear hb hbox hg) | ((with_reducible refine gate_callee (f := 19) rfl ?_); refine goesL_ (some 15) rfl rfl Try.func19 (by kernel_rfl) rfl #[] rfl (by (try simp only [List.map_toArray, List.map_cons, List.map_nil]); first | done | rfl | (simp only [List.length_drop, List.length_take]; rfl)) ?_; (with_reducible refine (crossbarlaw06_awake.calls k  true _ A3.out).mono ?_); rintro e w7 ⟨rfl, hb⟩; refine ⟨_, rfl, ?_⟩; replace BK920 := bbE BK920 hb; replace HB := bstE HB hb; (try clear hb); (try clear hb2); (try clear hk); (try clear hi)))
    (try simp only [Act.put, List.setIfInBounds_toArray, List.set_cons_zero, List.set_cons_succ])
    go_cut [24] (fun v24 wc => ∃ (kq : Nat) (x24_4 : Bool), v24 = .bool x24_4 ∧ Aside0 (crossbarlaw06_PacketBack.j0 kq l1 x24_4 a0_0 a0_1 a0_2 a0_3 a0_4 a0_5 a0_6 l0_7 a0_8 l0_9 l0_10 a0_11 = some r) ∧ Aside0 (kq ≤ k) ∧ Aside0 (wc.heap[gb920]? = some (.cells #[.bool a0_0, .bool a0_1, .bool a0_2, .int .i64 a0_3, .int .u16 a0_4, .int .u32 a0_5, .int .u32 a0_6, (.slice A0_7 l0_7.length c0_7), .int .u16 a0_8, (.slice A0_9 l0_9.length c0_9), (.slice A0_10 l0_10.length c0_10), .int .i64 a0_11] 45 (0, 0))) ∧ Aside0 (Below w.heap.size w wc))
    case first =>
      have H := HC5.out
      clear HC5
      replace H := Option.bind_eq_some_iff.mp H
      obtain ⟨t922, A80, H⟩ := H
      replace H : (if t922 = true then (crossbarlaw06_PacketBack.j0 k l1 (decide ((l1.length : Int) > 70000)) a0_0 a0_1 a0_2 a0_3 a0_4 a0_5 a0_6 l0_7 a0_8 l0_9 l0_10 a0_11) else (crossbarlaw06_PacketBack.j0 k l1 true a0_0 a0_1 a0_2 a0_3 a0_4 a0_5 a0_6 l0_7 a0_8 l0_9 l0_10 a0_11)) = some r := H
      have A8 := Aside0.mk A80
      clear A80
      by_cases c9 : t922 = true
      · subst c9
        have H1 : (crossbarlaw06_PacketBack.j0 k l1 (decide ((l1.length : Int) > 70000)) a0_0 a0_1 a0_2 a0_3 a0_4 a0_5 a0_6 l0_7 a0_8 l0_9 l0_10 a0_11) = some r := by rw [if_pos rfl] at H; exact H
        clear H
        have H := H1
        clear H1
        have H' := Aside0.mk H
        clear H
        obtain ⟨hcz10_0, hcz10_1, hcz10_2, hcz10_3, hcz10_4, hcz10_5, hcz10_6, hcz10_7, hcz10_8, hcz10_9, hcz10_10, hcz10_11, hfz10_0, hfz10_1, hfz10_2, hfz10_3, hfz10_4, hfz10_5, hfz10_6, hfz10_7, hfz10_8, hfz10_9, hfz10_10, hfz10_11⟩ := bc12 BK920.out
        go_wp2_with (first | ((with_reducible refine gate_callee (f := 20) rfl ?_); refine goesL_ (some 18) rfl rfl Try.func20 (by kernel_rfl) rfl #[.agg #[.bool a0_0, .bool a0_1, .bool a0_2, .int .i64 a0_3, .int .u16 a0_4, .int .u32 a0_5, .int .u32 a0_6, .slice A0_7 l0_7.length c0_7, .int .u16 a0_8, .slice A0_9 l0_9.length c0_9, .slice A0_10 l0_10.length c0_10, .int .i64 a0_11]] rfl (by (try simp only [List.map_toArray, List.map_cons, List.map_nil]); first | done | rfl | (simp only [List.length_drop, List.length_take]; rfl)) ?_; (with_reducible refine (crossbarref06_Short.calls a0_0 a0_1 a0_2 a0_3 a0_4 a0_5 a0_6 _ _ l0_7 a0_8 _ _ l0_9 _ _ l0_10 a0_11 true _ ?side1 ?side2 ?side3 ?side4 ?side5 ?side6 A8.out).mono ?_); (case side1 => repeat (first | exact (Kd.C_below HR0_7.out HB.out) | (with_reducible refine Kd.C_alloc ?_ _) | (with_reducible refine Kd.C_drewN ?_ _) | (with_reducible refine Kd.C_drew ?_))); (case side2 => exact HC0_7.out); (case side3 => repeat (first | exact (Kd.C_below HR0_9.out HB.out) | (with_reducible refine Kd.C_alloc ?_ _) | (with_reducible refine Kd.C_drewN ?_ _) | (with_reducible refine Kd.C_drew ?_))); (case side4 => exact HC0_9.out); (case side5 => repeat (first | exact (Kd.C_below HR0_10.out HB.out) | (with_reducible refine Kd.C_alloc ?_ _) | (with_reducible refine Kd.C_drewN ?_ _) | (with_reducible refine Kd.C_drew ?_))); (case side6 => exact HC0_10.out); rintro e w11 ⟨rfl, hb⟩; refine ⟨_, rfl, ?_⟩; replace BK920 := bbE BK920 hb; replace HB := bstE HB hb; (try clear hb); (try clear hb2); (try clear hk); (try clear hi)))
        go_meet
        case rel => exact ⟨_, (decide ((l1.length : Int) > 70000)), (by first | rfl | (simp; done) | (simp [*]; done)), H', ⟨by first | omega | exact Nat.le_refl _⟩, ⟨by (with_reducible repeat (first | refine blk_drewN ?_ _ | refine blk_drew ?_ | refine blk_alloc ?_ _)); exact BK920.out⟩, ⟨by repeat (first | (with_reducible first | exact HB.out | apply below_alloc | apply pw_below_drewN | apply below_drew1 | refine below_set ?_ GE920.out) | exact HB.out)⟩⟩
      replace c9 := Bool.eq_false_iff.mpr c9
      subst c9
      have H1 : (crossbarlaw06_PacketBack.j0 k l1 true a0_0 a0_1 a0_2 a0_3 a0_4 a0_5 a0_6 l0_7 a0_8 l0_9 l0_10 a0_11) = some r := by rw [if_neg (show ¬ (false = true) by decide)] at H; exact H
      clear H
      have H := H1
      clear H1
      have H' := Aside0.mk H
      clear H
      obtain ⟨hcz12_0, hcz12_1, hcz12_2, hcz12_3, hcz12_4, hcz12_5, hcz12_6, hcz12_7, hcz12_8, hcz12_9, hcz12_10, hcz12_11, hfz12_0, hfz12_1, hfz12_2, hfz12_3, hfz12_4, hfz12_5, hfz12_6, hfz12_7, hfz12_8, hfz12_9, hfz12_10, hfz12_11⟩ := bc12 BK920.out
      go_wp2_with (first | ((with_reducible refine gate_callee (f := 20) rfl ?_); refine goesL_ (some 18) rfl rfl Try.func20 (by kernel_rfl) rfl #[.agg #[.bool a0_0, .bool a0_1, .bool a0_2, .int .i64 a0_3, .int .u16 a0_4, .int .u32 a0_5, .int .u32 a0_6, .slice A0_7 l0_7.length c0_7, .int .u16 a0_8, .slice A0_9 l0_9.length c0_9, .slice A0_10 l0_10.length c0_10, .int .i64 a0_11]] rfl (by (try simp only [List.map_toArray, List.map_cons, List.map_nil]); first | done | rfl | (simp only [List.length_drop, List.length_take]; rfl)) ?_; (with_reducible refine (crossbarref06_Short.calls a0_0 a0_1 a0_2 a0_3 a0_4 a0_5 a0_6 _ _ l0_7 a0_8 _ _ l0_9 _ _ l0_10 a0_11 false _ ?side1 ?side2 ?side3 ?side4 ?side5 ?side6 A8.out).mono ?_); (case side1 => repeat (first | exact (Kd.C_below HR0_7.out HB.out) | (with_reducible refine Kd.C_alloc ?_ _) | (with_reducible refine Kd.C_drewN ?_ _) | (with_reducible refine Kd.C_drew ?_))); (case side2 => exact HC0_7.out); (case side3 => repeat (first | exact (Kd.C_below HR0_9.out HB.out) | (with_reducible refine Kd.C_alloc ?_ _) | (with_reducible refine Kd.C_drewN ?_ _) | (with_reducible refine Kd.C_drew ?_))); (case side4 => exact HC0_9.out); (case side5 => repeat (first | exact (Kd.C_below HR0_10.out HB.out) | (with_reducible refine Kd.C_alloc ?_ _) | (with_reducible refine Kd.C_drewN ?_ _) | (with_reducible refine Kd.C_drew ?_))); (case side6 => exact HC0_10.out); rintro e w13 ⟨rfl, hb⟩; refine ⟨_, rfl, ?_⟩; replace BK920 := bbE BK920 hb; replace HB := bstE HB hb; (try clear hb); (try clear hb2); (try clear hk); (try clear hi)))
      go_meet
      case rel => exact ⟨_, (true), (by first | rfl | (simp; done) | (simp [*]; done)), H', ⟨by first | omega | exact Nat.le_refl _⟩, ⟨by (with_reducible repeat (first | refine blk_drewN ?_ _ | refine blk_drew ?_ | refine blk_alloc ?_ _)); exact BK920.out⟩, ⟨by repeat (first | (with_reducible first | exact HB.out | apply below_alloc | apply pw_below_drewN | apply below_drew1 | refine below_set ?_ GE920.out) | exact HB.out)⟩⟩
    case rest =>
      clear HC5
      try clear c1
      try clear c2
      try clear p2
      try clear c4
      try clear c7
      try clear c9
      try clear hcz10_0
      try clear hcz10_1
      try clear hcz10_10
      try clear hcz10_11
      try clear hcz10_2
      try clear hcz10_3
      try clear hcz10_4
      try clear hcz10_5
      try clear hcz10_6
      try clear hcz10_7
      try clear hcz10_8
      try clear hcz10_9
      try clear hcz12_0
      try clear hcz12_1
      try clear hcz12_10
      try clear hcz12_11
      try clear hcz12_2
      try clear hcz12_3
      try clear hcz12_4
      try clear hcz12_5
      try clear hcz12_6
      try clear hcz12_7
      try clear hcz12_8
      try clear hcz12_9
      try clear hfz10_0
      try clear hfz10_1
      try clear hfz10_10
      try clear hfz10_11
      try clear hfz10_2
      try clear hfz10_3
      try clear hfz10_4
      try clear hfz10_5
      try clear hfz10_6
      try clear hfz10_7
      try clear hfz10_8
      try clear hfz10_9
      try clear hfz12_0
      try clear hfz12_1
      try clear hfz12_10
      try clear hfz12_11
      try clear hfz12_2
      try clear hfz12_3
      try clear hfz12_4
      try clear hfz12_5
      try clear hfz12_6
      try clear hfz12_7
      try clear hfz12_8
      try clear hfz12_9
      obtain ⟨kq, x24_4, rfl, HA, HJ4, BK920, HB⟩ := hcut
      cases kq with
      | zero => exact absurd HA.out (by simp [crossbarlaw06_PacketBack.j0])
      | succ kj4 =>
        have H := HA.out
        clear HA
        simp only [crossbarlaw06_PacketBack.j0] at H
        by_cases c14 : x24_4 = true
        · subst c14
          have H1 : (some true) = some r := by rw [if_pos rfl] at H; exact H
          clear H
          have H := H1
          clear H1
          obtain rfl := Option.some.inj H
          go_wp2
          go_ret
          exact ⟨by first | rfl | (simp [errW_none, errW_some] <;> rfl) | (simp [*, errW_none, errW_some] <;> rfl), by repeat (first | (with_reducible first | exact HB.out | apply below_alloc | apply pw_below_drewN | apply below_drew1 | refine below_set ?_ GE920.out) | exact HB.out)⟩
        replace c14 := Bool.eq_false_iff.mpr c14
        subst c14
        have H1 : ((packet_Write.f kj4 a0_0 a0_1 a0_2 a0_3 a0_4 a0_5 a0_6 l0_7 a0_8 l0_9 l0_10 a0_11 65535).bind fun bt923 => (if bt923.2 = 0 then ((packet_Read.f kj4 bt923.1).bind fun bt927 => (if bt927.2.2.2.2.2.2.2.2.2.2.2.2 = 0 then ((crossbarref06_Same.f kj4 a0_0 a0_1 a0_2 a0_3 a0_4 a0_5 a0_6 l0_7 a0_8 l0_9 l0_10 a0_11 bt927.1 bt927.2.1 bt927.2.2.1 bt927.2.2.2.1 bt927.2.2.2.2.1 bt927.2.2.2.2.2.1 bt927.2.2.2.2.2.2.1 bt927.2.2.2.2.2.2.2.1 bt927.2.2.2.2.2.2.2.2.1 bt927.2.2.2.2.2.2.2.2.2.1 bt927.2.2.2.2.2.2.2.2.2.2.1 bt927.2.2.2.2.2.2.2.2.2.2.2.1).bind fun t947 => (if t947 = true then ((packet_Canon.f kj4 bt923.1).bind fun t948 => (if t948 = true then ((packet_Size.f kj4 a0_0 a0_1 a0_2 a0_3 a0_4 a0_5 a0_6 l0_7 a0_8 l0_9 l0_10 a0_11).bind fun t949 => (if (bt923.1.length : Int) = t949 then (if (bt923.1.length : Int) > 65535 then (none) else (crossbarlaw06_PacketBack.j1 kj4 l1)) else (none))) else (none))) else (none))) else (none))) else ((packet_Right.f kj4 a0_0 a0_1 a0_2 a0_3 a0_4 a0_5 a0_6 l0_7 a0_8 l0_9 l0_10 a0_11).bind fun t950 => (if t950 = true then (none) else (crossbarlaw06_PacketBack.j1 kj4 l1))))) = some r := by rw [if_neg (show ¬ (false = true) by decide)] at H; exact H
        clear H
        have H := H1
        clear H1
        replace H := Option.bind_eq_some_iff.mp H
        obtain ⟨⟨t923, t926⟩, A150, H⟩ := H
        replace H : (if t926 = 0 then ((packet_Read.f kj4 t923).bind fun bt927 => (if bt927.2.2.2.2.2.2.2.2.2.2.2.2 = 0 then ((crossbarref06_Same.f kj4 a0_0 a0_1 a0_2 a0_3 a0_4 a0_5 a0_6 l0_7 a0_8 l0_9 l0_10 a0_11 bt927.1 bt927.2.1 bt927.2.2.1 bt927.2.2.2.1 bt927.2.2.2.2.1 bt927.2.2.2.2.2.1 bt927.2.2.2.2.2.2.1 bt927.2.2.2.2.2.2.2.1 bt927.2.2.2.2.2.2.2.2.1 bt927.2.2.2.2.2.2.2.2.2.1 bt927.2.2.2.2.2.2.2.2.2.2.1 bt927.2.2.2.2.2.2.2.2.2.2.2.1).bind fun t947 => (if t947 = true then ((packet_Canon.f kj4 t923).bind fun t948 => (if t948 = true then ((packet_Size.f kj4 a0_0 a0_1 a0_2 a0_3 a0_4 a0_5 a0_6 l0_7 a0_8 l0_9 l0_10 a0_11).bind fun t949 => (if (t923.length : Int) = t949 then (if (t923.length : Int) > 65535 then (none) else (crossbarlaw06_PacketBack.j1 kj4 l1)) else (none))) else (none))) else (none))) else (none))) else ((packet_Right.f kj4 a0_0 a0_1 a0_2 a0_3 a0_4 a0_5 a0_6 l0_7 a0_8 l0_9 l0_10 a0_11).bind fun t950 => (if t950 = true then (none) else (crossbarlaw06_PacketBack.j1 kj4 l1)))) = some r := H
        have A15 := Aside0.mk A150
        clear A150
        have HC16 := Aside0.mk H
        clear H
        obtain ⟨hcz17_0, hcz17_1, hcz17_2, hcz17_3, hcz17_4, hcz17_5, hcz17_6, hcz17_7, hcz17_8, hcz17_9, hcz17_10, hcz17_11, hfz17_0, hfz17_1, hfz17_2, hfz17_3, hfz17_4, hfz17_5, hfz17_6, hfz17_7, hfz17_8, hfz17_9, hfz17_10, hfz17_11⟩ := bc12 BK920.out
        go_upto_if 31 with (first | ((with_reducible refine gate_callee (f := 22) rfl ?_); refine goesL_ (some 27) rfl rfl Try.func22 (by kernel_rfl) rfl #[.agg #[.bool a0_0, .bool a0_1, .bool a0_2, .int .i64 a0_3, .int .u16 a0_4, .int .u32 a0_5, .int .u32 a0_6, .slice A0_7 l0_7.length c0_7, .int .u16 a0_8, .slice A0_9 l0_9.length c0_9, .slice A0_10 l0_10.length c0_10, .int .i64 a0_11], .int .i64 65535] rfl (by (try simp only [List.map_toArray, List.map_cons, List.map_nil]); first | done | rfl | (simp only [List.length_drop, List.length_take]; rfl)) ?_; (with_reducible refine (packet_Write.calls kj4 a0_0 a0_1 a0_2 a0_3 a0_4 a0_5 a0_6 _ _ l0_7 a0_8 (fun k_ => k_ < w.heap.size) _ _ l0_9 (fun k_ => k_ < w.heap.size) _ _ l0_10 a0_11 65535 t923 t926 _ ?side1 ?side2 ?side3 ?side4 A15.out).mono ?_); (case side1 => repeat (first | exact (Kd.C_below HR0_7.out HB.out) | (with_reducible refine Kd.C_alloc ?_ _) | (with_reducible refine Kd.C_drewN ?_ _) | (with_reducible refine Kd.C_drew ?_))); (case side2 => exact HC0_7.out); (case side3 => exact Kd.V_mk HC0_9.out (Kd.F_below (Kd.C_F (Kd.heap_int .u8) HR0_9.out) (pB HB))); (case side4 => exact Kd.V_mk HC0_10.out (Kd.F_below (Kd.C_F (Kd.heap_int .u8) HR0_10.out) (pB HB))); rintro e w18 ⟨v924, rfl, ho0, hb⟩; refine ⟨_, rfl, ?_⟩; have HO925 := Aside0.mk (Kd.R_lower (Kd.R_mono (ok' := fun k_ => True) ho0 (fun _ hk_ => trivial)) (below_size (pB HB))); replace BK920 := bbE BK920 hb; replace HB := bstE HB hb; (try clear hb); (try clear hb2); (try clear hk); (try clear hi); (try clear ho0)))
        (try simp only [Act.put, List.setIfInBounds_toArray, List.set_cons_zero, List.set_cons_succ])
        go_cut [] (fun wc => ∃ (kq : Nat), Aside0 (crossbarlaw06_PacketBack.j1 kq l1 = some r) ∧ Aside0 (kq ≤ kj4) ∧ Aside0 (wc.heap[gb920]? = some (.cells #[.bool a0_0, .bool a0_1, .bool a0_2, .int .i64 a0_3, .int .u16 a0_4, .int .u32 a0_5, .int .u32 a0_6, (.slice A0_7 l0_7.length c0_7), .int .u16 a0_8, (.slice A0_9 l0_9.length c0_9), (.slice A0_10 l0_10.length c0_10), .int .i64 a0_11] 45 (0, 0))) ∧ Aside0 (Below w.heap.size w wc))
        case first =>
          have H := HC16.out
          clear HC16
          by_cases c19 : t926 = 0
          · rw [if_pos c19] at H
            have c19b0 : (t926 == 0) = true := beq_iff_eq.mpr c19
            have c19b1 : (t926 != 0) = false := bne_eq_false_iff_eq.mpr c19
            clear c19
            (first | rw [c19b0] | (simp only [i64_w, i32_w]; rw [c19b0]) | rw [c19b1] | skip)
            replace H := Option.bind_eq_some_iff.mp H
            obtain ⟨⟨t927, t928, t929, t930, t931, t932, t933, t934, t937, t938, t941, t944, t945⟩, A200, H⟩ := H
            replace H : (if t945 = 0 then ((crossbarref06_Same.f kj4 a0_0 a0_1 a0_2 a0_3 a0_4 a0_5 a0_6 l0_7 a0_8 l0_9 l0_10 a0_11 t927 t928 t929 t930 t931 t932 t933 t934 t937 t938 t941 t944).bind fun t947 => (if t947 = true then ((packet_Canon.f kj4 t923).bind fun t948 => (if t948 = true then ((packet_Size.f kj4 a0_0 a0_1 a0_2 a0_3 a0_4 a0_5 a0_6 l0_7 a0_8 l0_9 l0_10 a0_11).bind fun t949 => (if (t923.length : Int) = t949 then (if (t923.length : Int) > 65535 then (none) else (crossbarlaw06_PacketBack.j1 kj4 l1)) else (none))) else (none))) else (none))) else (none)) = some r := H
            have A20 := Aside0.mk A200
            clear A200
            by_cases c21 : t945 = 0
            · rw [if_pos c21] at H
              have c21b0 : (t945 == 0) = true := beq_iff_eq.mpr c21
              have c21b1 : (t945 != 0) = false := bne_eq_false_iff_eq.mpr c21
              clear c21
              replace H := Option.bind_eq_some_iff.mp H
              obtain ⟨t947, A220, H⟩ := H
              replace H : (if t947 = true then ((packet_Canon.f kj4 t923).bind fun t948 => (if t948 = true then ((packet_Size.f kj4 a0_0 a0_1 a0_2 a0_3 a0_4 a0_5 a0_6 l0_7 a0_8 l0_9 l0_10 a0_11).bind fun t949 => (if (t923.length : Int) = t949 then (if (t923.length : Int) > 65535 then (none) else (crossbarlaw06_PacketBack.j1 kj4 l1)) else (none))) else (none))) else (none)) = some r := H
              have A22 := Aside0.mk A220
              clear A220
              by_cases c23 : t947 = true
              · subst c23
                have H1 : ((packet_Canon.f kj4 t923).bind fun t948 => (if t948 = true then ((packet_Size.f kj4 a0_0 a0_1 a0_2 a0_3 a0_4 a0_5 a0_6 l0_7 a0_8 l0_9 l0_10 a0_11).bind fun t949 => (if (t923.length : Int) = t949 then (if (t923.length : Int) > 65535 then (none) else (crossbarlaw06_PacketBack.j1 kj4 l1)) else (none))) else (none))) = some r := by rw [if_pos rfl] at H; exact H
                clear H
                have H := H1
                clear H1
                replace H := Option.bind_eq_some_iff.mp H
                obtain ⟨t948, A240, H⟩ := H
                replace H : (if t948 = true then ((packet_Size.f kj4 a0_0 a0_1 a0_2 a0_3 a0_4 a0_5 a0_6 l0_7 a0_8 l0_9 l0_10 a0_11).bind fun t949 => (if (t923.length : Int) = t949 then (if (t923.length : Int) > 65535 then (none) else (crossbarlaw06_PacketBack.j1 kj4 l1)) else (none))) else (none)) = some r := H
                have A24 := Aside0.mk A240
                clear A240
                by_cases c25 : t948 = true
                · subst c25
                  have H1 : ((packet_Size.f kj4 a0_0 a0_1 a0_2 a0_3 a0_4 a0_5 a0_6 l0_7 a0_8 l0_9 l0_10 a0_11).bind fun t949 => (if (t923.length : Int) = t949 then (if (t923.length : Int) > 65535 then (none) else (crossbarlaw06_PacketBack.j1 kj4 l1)) else (none))) = some r := by rw [if_pos rfl] at H; exact H
                  clear H
                  have H := H1
                  clear H1
                  replace H := Option.bind_eq_some_iff.mp H
                  obtain ⟨t949, A260, H⟩ := H
                  replace H : (if (t923.length : Int) = t949 then (if (t923.length : Int) > 65535 then (none) else (crossbarlaw06_PacketBack.j1 kj4 l1)) else (none)) = some r := H
                  have A26 := Aside0.mk A260
                  clear A260
                  by_cases c27 : (t923.length : Int) = t949
                  · rw [if_pos c27] at H
                    have c27b0 : ((t923.length : Int) == t949) = true := beq_iff_eq.mpr c27
                    have c27b1 : ((t923.length : Int) != t949) = false := bne_eq_false_iff_eq.mpr c27
                    clear c27
                    by_cases c28 : (t923.length : Int) > 65535
                    · rw [if_pos c28] at H
                      exact absurd H (by simp)
                    rw [if_neg c28] at H
                    have c28b0 : decide (65535 < (t923.length : Int)) = false := decide_eq_false c28
                    have c28b1 : decide (65535 < t923.length) = false := decide_eq_false (by omega)
                    clear c28
                    have H' := Aside0.mk H
                    clear H
                    obtain ⟨Ao29, co29, eo29⟩ := Kd.R_slice HO925.out
                    subst eo29
                    go_wp2_with (first | ((with_reducible refine gate_callee (f := 17) rfl ?_); refine goesL_ (some 34) rfl rfl Try.func17 (by kernel_rfl) rfl #[.slice Ao29 t923.length co29] rfl (by (try simp only [List.map_toArray, List.map_cons, List.map_nil]); first | done | rfl | (simp only [List.length_drop, List.length_take]; rfl)) ?_; (with_reducible refine (packet_Read.calls kj4 _ _ t923 t927 t928 t929 t930 t931 t932 t933 t934 t937 t938 t941 t944 t945 _ ?side1 ?side2 A20.out).mono ?_); (case side1 => repeat (first | exact (Kd.R_reads' HO925.out).2.2 | (with_reducible refine Kd.C_alloc ?_ _) | (with_reducible refine Kd.C_drewN ?_ _) | (with_reducible refine Kd.C_drew ?_))); (case side2 => exact (Kd.R_reads' HO925.out).2.1); rintro e w30 ⟨v935, v939, v942, rfl, ho0, ho1, ho2, hb⟩; refine ⟨_, rfl, ?_⟩; have n0_ := Aside0.mk (Kd.R_mono (Kd.R_told (Kd.R_told (Kd.R_old (pR HO925) hb) (Kd.R_base ho1)) (Kd.R_base ho2)) (fun _ h_ => h_.1)); have HO936 := Aside0.mk (Kd.R_lower ho0 (below_size (pB HB))); have HO940 := Aside0.mk (Kd.R_lower (Kd.R_new' ho1 (Kd.R_lt (pR HO925))) (below_size (pB HB))); have HO943 := Aside0.mk (Kd.R_lower (Kd.R_new' ho2 (Kd.R_lt (pR HO925))) (below_size (pB HB))); replace BK920 := bbE BK920 hb; replace HB := bstE HB hb; clear HO925; have HO925 := n0_; clear n0_; (try clear hb); (try clear hb2); (try clear hk); (try clear hi); (try clear ho0); (try clear ho1); (try clear ho2)) | ((with_reducible refine gate_dst (N := 7) rfl ?_); (try (refine gate_guard (by rfl) ?_; dsimp only)); refine box_event ?hg (N := 7) ?hd (cs := #[.bool false, .bool false, .bool false, .int .i64 0, .int .u16 0, .int .u32 0, .int .u32 0, .slice none 0 0, .int .u16 0, .slice none 0 0, .slice none 0 0, .int .i64 0]) (t := 45) ?hr ?_; (case hd => rfl); (case hg => rfl); (case hr => first | (go_simp; done) | (go_simp; rfl)); intro gb946 hg w31 hbox hb; replace HO925 := rbE HO925 hb; replace HO936 := rbE HO936 hb; replace HO940 := rbE HO940 hb; replace HO943 := rbE HO943 hb; have n4_ := bbE BK920 hb; have n5_ := bstE HB hb; have BK946 := Aside0.mk (hbox); have GW946 := geE hg HB; have GE946 := geE hg HB; have NB920_946 := nlE hg BK920; have NB946_920 := ngE hg BK920; clear BK920; clear HB; have BK920 := n4_; have HB := n5_; clear n4_ n5_; clear hb hbox hg; have hnb32 := NB946_920.out; have hnc32 := NB920_946.out; obtain ⟨hcz33_0, hcz33_1, hcz33_2, hcz33_3, hcz33_4, hcz33_5, hcz33_6, hcz33_7, hcz33_8, hcz33_9, hcz33_10, hcz33_11, hfz33_0, hfz33_1, hfz33_2, hfz33_3, hfz33_4, hfz33_5, hfz33_6, hfz33_7, hfz33_8, hfz33_9, hfz33_10, hfz33_11⟩ := bc12 BK946.out; obtain ⟨Ao34, co34, eo34⟩ := Kd.R_slice HO936.out; subst eo34; obtain ⟨Ao35, co35, eo35⟩ := Kd.R_slice HO940.out; subst eo35; obtain ⟨Ao36, co36, eo36⟩ := Kd.R_slice HO943.out; subst eo36) | ((with_reducible refine gate_store (t := 45) (p := 7) rfl ?_); refine store_event (t := 45) (p := 7) (v := ?vo_w37) (w1 := ((((((((((((w31.setCell ⟨gb946, 0, none⟩ (.bool t927)).setCell ⟨gb946, 1, none⟩ (.bool t928)).setCell ⟨gb946, 2, none⟩ (.bool t929)).setCell ⟨gb946, 3, none⟩ (.int .i64 t930)).setCell ⟨gb946, 4, none⟩ (.int .u16 t931)).setCell ⟨gb946, 5, none⟩ (.int .u32 t932)).setCell ⟨gb946, 6, none⟩ (.int .u32 t933)).setCell ⟨gb946, 7, none⟩ (.slice Ao34 t934.length co34)).setCell ⟨gb946, 8, none⟩ (.int .u16 t937)).setCell ⟨gb946, 9, none⟩ (.slice Ao35 t938.length co35)).setCell ⟨gb946, 10, none⟩ (.slice Ao36 t941.length co36)).setCell ⟨gb946, 11, none⟩ (.int .i64 t944))) ?hg ?ho ?hn ?hr ?_; (case ho => rfl); (case hg => rfl); (case hn => rfl); (case hr => first | (go_simp; done) | (go_simp; rfl)); intro w37 hw; replace HO925 : Aside0 (Kd.R (Kd.int .u8) 5 w37 w.heap.size (fun k_ => some k_ ≠ (.slice Ao35 t938.length co35 : Value).ownBlock ∧ some k_ ≠ (.slice Ao36 t941.length co36 : Value).ownBlock) (.slice Ao29 t923.length co29) t923) := ⟨(by rw [hw]; exact (by (with_reducible repeat (first | apply Kd.R_alloc | apply Kd.R_drewN | apply Kd.R_drew)); exact Kd.R_mono (Kd.R_far (p := ⟨gb946, 11, none⟩) (Kd.R_far (p := ⟨gb946, 10, none⟩) (Kd.R_far (p := ⟨gb946, 9, none⟩) (Kd.R_far (p := ⟨gb946, 8, none⟩) (Kd.R_far (p := ⟨gb946, 7, none⟩) (Kd.R_far (p := ⟨gb946, 6, none⟩) (Kd.R_far (p := ⟨gb946, 5, none⟩) (Kd.R_far (p := ⟨gb946, 4, none⟩) (Kd.R_far (p := ⟨gb946, 3, none⟩) (Kd.R_far (p := ⟨gb946, 2, none⟩) (Kd.R_far (p := ⟨gb946, 1, none⟩) (Kd.R_far (p := ⟨gb946, 0, none⟩) (Kd.R_types HO925.out BK946.out (by decide)) (fun _ hk => hk.2) (.bool t927)) (fun _ hk => hk.2) (.bool t928)) (fun _ hk => hk.2) (.bool t929)) (fun _ hk => hk.2) (.int .i64 t930)) (fun _ hk => hk.2) (.int .u16 t931)) (fun _ hk => hk.2) (.int .u32 t932)) (fun _ hk => hk.2) (.int .u32 t933)) (fun _ hk => hk.2) (.slice Ao34 t934.length co34)) (fun _ hk => hk.2) (.int .u16 t937)) (fun _ hk => hk.2) (.slice Ao35 t938.length co35)) (fun _ hk => hk.2) (.slice Ao36 t941.length co36)) (fun _ hk => hk.2) (.int .i64 t944)) (fun _ hk => ⟨hk.1.1.2, hk.1.2⟩)))⟩; replace HO936 := rfE hw HO936 BK946; replace HO940 : Aside0 (Kd.R (Kd.int .u8) 5 w37 w.heap.size (fun k_ => some k_ ≠ (.slice Ao29 t923.length co29 : Value).ownBlock ∧ some k_ ≠ (.slice Ao36 t941.length co36 : Value).ownBlock) (.slice Ao35 t938.length co35) t938) := ⟨(by rw [hw]; exact (by (with_reducible repeat (first | apply Kd.R_alloc | apply Kd.R_drewN | apply Kd.R_drew)); exact Kd.R_mono (Kd.R_far (p := ⟨gb946, 11, none⟩) (Kd.R_far (p := ⟨gb946, 10, none⟩) (Kd.R_far (p := ⟨gb946, 9, none⟩) (Kd.R_far (p := ⟨gb946, 8, none⟩) (Kd.R_far (p := ⟨gb946, 7, none⟩) (Kd.R_far (p := ⟨gb946, 6, none⟩) (Kd.R_far (p := ⟨gb946, 5, none⟩) (Kd.R_far (p := ⟨gb946, 4, none⟩) (Kd.R_far (p := ⟨gb946, 3, none⟩) (Kd.R_far (p := ⟨gb946, 2, none⟩) (Kd.R_far (p := ⟨gb946, 1, none⟩) (Kd.R_far (p := ⟨gb946, 0, none⟩) (Kd.R_types HO940.out BK946.out (by decide)) (fun _ hk => hk.2) (.bool t927)) (fun _ hk => hk.2) (.bool t928)) (fun _ hk => hk.2) (.bool t929)) (fun _ hk => hk.2) (.int .i64 t930)) (fun _ hk => hk.2) (.int .u16 t931)) (fun _ hk => hk.2) (.int .u32 t932)) (fun _ hk => hk.2) (.int .u32 t933)) (fun _ hk => hk.2) (.slice Ao34 t934.length co34)) (fun _ hk => hk.2) (.int .u16 t937)) (fun _ hk => hk.2) (.slice Ao35 t938.length co35)) (fun _ hk => hk.2) (.slice Ao36 t941.length co36)) (fun _ hk => hk.2) (.int .i64 t944)) (fun _ hk => ⟨hk.1.2, hk.1.1⟩)))⟩; replace HO943 : Aside0 (Kd.R (Kd.int .u8) 5 w37 w.heap.size (fun k_ => some k_ ≠ (.slice Ao29 t923.length co29 : Value).ownBlock ∧ some k_ ≠ (.slice Ao35 t938.length co35 : Value).ownBlock) (.slice Ao36 t941.length co36) t941) := ⟨(by rw [hw]; exact (by (with_reducible repeat (first | apply Kd.R_alloc | apply Kd.R_drewN | apply Kd.R_drew)); exact Kd.R_mono (Kd.R_far (p := ⟨gb946, 11, none⟩) (Kd.R_far (p := ⟨gb946, 10, none⟩) (Kd.R_far (p := ⟨gb946, 9, none⟩) (Kd.R_far (p := ⟨gb946, 8, none⟩) (Kd.R_far (p := ⟨gb946, 7, none⟩) (Kd.R_far (p := ⟨gb946, 6, none⟩) (Kd.R_far (p := ⟨gb946, 5, none⟩) (Kd.R_far (p := ⟨gb946, 4, none⟩) (Kd.R_far (p := ⟨gb946, 3, none⟩) (Kd.R_far (p := ⟨gb946, 2, none⟩) (Kd.R_far (p := ⟨gb946, 1, none⟩) (Kd.R_far (p := ⟨gb946, 0, none⟩) (Kd.R_types HO943.out BK946.out (by decide)) (fun _ hk => hk.2) (.bool t927)) (fun _ hk => hk.2) (.bool t928)) (fun _ hk => hk.2) (.bool t929)) (fun _ hk => hk.2) (.int .i64 t930)) (fun _ hk => hk.2) (.int .u16 t931)) (fun _ hk => hk.2) (.int .u32 t932)) (fun _ hk => hk.2) (.int .u32 t933)) (fun _ hk => hk.2) (.slice Ao34 t934.length co34)) (fun _ hk => hk.2) (.int .u16 t937)) (fun _ hk => hk.2) (.slice Ao35 t938.length co35)) (fun _ hk => hk.2) (.slice Ao36 t941.length co36)) (fun _ hk => hk.2) (.int .i64 t944)) (fun _ hk => ⟨hk.1.2, hk.1.1⟩)))⟩; replace BK920 := bfE hw BK920 NB920_946; replace BK946 : Aside0 (w37.heap[gb946]? = some (.cells #[.bool t927, .bool t928, .bool t929, .int .i64 t930, .int .u16 t931, .int .u32 t932, .int .u32 t933, .slice Ao34 t934.length co34, .int .u16 t937, .slice Ao35 t938.length co35, .slice Ao36 t941.length co36, .int .i64 t944] 45 (0, 0))) := ⟨by rw [hw]; apply puts12; exact BK946.out⟩; replace HB := bsE hw HB GE946; clear hw; obtain ⟨hcz38_0, hcz38_1, hcz38_2, hcz38_3, hcz38_4, hcz38_5, hcz38_6, hcz38_7, hcz38_8, hcz38_9, hcz38_10, hcz38_11, hfz38_0, hfz38_1, hfz38_2, hfz38_3, hfz38_4, hfz38_5, hfz38_6, hfz38_7, hfz38_8, hfz38_9, hfz38_10, hfz38_11⟩ := bc12 BK920.out; obtain ⟨hcz39_0, hcz39_1, hcz39_2, hcz39_3, hcz39_4, hcz39_5, hcz39_6, hcz39_7, hcz39_8, hcz39_9, hcz39_10, hcz39_11, hfz39_0, hfz39_1, hfz39_2, hfz39_3, hfz39_4, hfz39_5, hfz39_6, hfz39_7, hfz39_8, hfz39_9, hfz39_10, hfz39_11⟩ := bc12 BK946.out) | (go_at_call 18; (with_reducible refine (crossbarref06_Same.calls kj4 a0_0 a0_1 a0_2 a0_3 a0_4 a0_5 a0_6 _ _ l0_7 a0_8 _ _ l0_9 _ _ l0_10 a0_11 t927 t928 t929 t930 t931 t932 t933 _ _ t934 t937 _ _ t938 _ _ t941 t944 true _ ?side1 ?side2 ?side3 ?side4 ?side5 ?side6 ?side7 ?side8 ?side9 ?side10 ?side11 ?side12 A22.out).mono ?_); (case side1 => repeat (first | exact (Kd.C_below HR0_7.out HB.out) | (with_reducible refine Kd.C_alloc ?_ _) | (with_reducible refine Kd.C_drewN ?_ _) | (with_reducible refine Kd.C_drew ?_))); (case side2 => exact HC0_7.out); (case side3 => repeat (first | exact (Kd.C_below HR0_9.out HB.out) | (with_reducible refine Kd.C_alloc ?_ _) | (with_reducible refine Kd.C_drewN ?_ _) | (with_reducible refine Kd.C_drew ?_))); (case side4 => exact HC0_9.out); (case side5 => repeat (first | exact (Kd.C_below HR0_10.out HB.out) | (with_reducible refine Kd.C_alloc ?_ _) | (with_reducible refine Kd.C_drewN ?_ _) | (with_reducible refine Kd.C_drew ?_))); (case side6 => exact HC0_10.out); (case side7 => repeat (first | exact (Kd.R_reads' HO936.out).2.2 | (with_reducible refine Kd.C_alloc ?_ _) | (with_reducible refine Kd.C_drewN ?_ _) | (with_reducible refine Kd.C_drew ?_))); (case side8 => exact (Kd.R_reads' HO936.out).2.1); (case side9 => repeat (first | exact (Kd.R_reads' HO940.out).2.2 | (with_reducible refine Kd.C_alloc ?_ _) | (with_reducible refine Kd.C_drewN ?_ _) | (with_reducible refine Kd.C_drew ?_))); (case side10 => exact (Kd.R_reads' HO940.out).2.1); (case side11 => repeat (first | exact (Kd.R_reads' HO943.out).2.2 | (with_reducible refine Kd.C_alloc ?_ _) | (with_reducible refine Kd.C_drewN ?_ _) | (with_reducible refine Kd.C_drew ?_))); (case side12 => exact (Kd.R_reads' HO943.out).2.1); rintro e w40 ⟨rfl, hb⟩; replace HO925 := rbE HO925 hb; replace HO936 := rbE HO936 hb; replace HO940 := rbE HO940 hb; replace HO943 := rbE HO943 hb; replace BK920 := bbE BK920 hb; replace BK946 := bbE BK946 hb; replace HB := bstE HB hb; (try clear hb); (try clear hb2); (try clear hk); (try clear hi)) | (go_at_call 28; (with_reducible refine (packet_Canon.calls kj4 _ _ t923 true _ ?side1 ?side2 A24.out).mono ?_); (case side1 => repeat (first | exact (Kd.R_reads' HO925.out).2.2 | (with_reducible refine Kd.C_alloc ?_ _) | (with_reducible refine Kd.C_drewN ?_ _) | (with_reducible refine Kd.C_drew ?_))); (case side2 => exact (Kd.R_reads' HO925.out).2.1); rintro e w41 ⟨rfl, hb⟩; replace HO925 := rbE HO925 hb; replace HO936 := rbE HO936 hb; replace HO940 := rbE HO940 hb; replace HO943 := rbE HO943 hb; replace BK920 := bbE BK920 hb; replace BK946 := bbE BK946 hb; replace HB := bstE HB hb; (try clear hb); (try clear hb2); (try clear hk); (try clear hi); obtain ⟨hcz42_0, hcz42_1, hcz42_2, hcz42_3, hcz42_4, hcz42_5, hcz42_6, hcz42_7, hcz42_8, hcz42_9, hcz42_10, hcz42_11, hfz42_0, hfz42_1, hfz42_2, hfz42_3, hfz42_4, hfz42_5, hfz42_6, hfz42_7, hfz42_8, hfz42_9, hfz42_10, hfz42_11⟩ := bc12 BK920.out) | (go_at_call 23; (with_reducible refine (packet_Size.calls kj4 a0_0 a0_1 a0_2 a0_3 a0_4 a0_5 a0_6 _ _ l0_7 a0_8 _ _ l0_9 _ _ l0_10 a0_11 t949 _ ?side1 ?side2 ?side3 ?side4 ?side5 ?side6 A26.out).mono ?_); (case side1 => repeat (first | exact (Kd.C_below HR0_7.out HB.out) | (with_reducible refine Kd.C_alloc ?_ _) | (with_reducible refine Kd.C_drewN ?_ _) | (with_reducible refine Kd.C_drew ?_))); (case side2 => exact HC0_7.out); (case side3 => repeat (first | exact (Kd.C_below HR0_9.out HB.out) | (with_reducible refine Kd.C_alloc ?_ _) | (with_reducible refine Kd.C_drewN ?_ _) | (with_reducible refine Kd.C_drew ?_))); (case side4 => exact HC0_9.out); (case side5 => repeat (first | exact (Kd.C_below HR0_10.out HB.out) | (with_reducible refine Kd.C_alloc ?_ _) | (with_reducible refine Kd.C_drewN ?_ _) | (with_reducible refine Kd.C_drew ?_))); (case side6 => exact HC0_10.out); rintro e w43 ⟨rfl, hb⟩; replace HO925 := rbE HO925 hb; replace HO936 := rbE HO936 hb; replace HO940 := rbE HO940 hb; replace HO943 := rbE HO943 hb; replace BK920 := bbE BK920 hb; replace BK946 := bbE BK946 hb; replace HB := bstE HB hb; (try clear hb); (try clear hb2); (try clear hk); (try clear hi)))
                    go_meet
                    case rel => exact ⟨_, H', ⟨by have := HJ4.out; first | omega | exact Nat.le_refl _⟩, ⟨by (with_reducible repeat (first | refine blk_drewN ?_ _ | refine blk_drew ?_ | refine blk_alloc ?_ _)); exact BK920.out⟩, ⟨by repeat (first | (with_reducible first | exact HB.out | apply below_alloc | apply pw_below_drewN | apply below_drew1 | refine below_set ?_ GE920.out | refine below_set ?_ GE946.out) | exact HB.out)⟩⟩
                  rw [if_neg c27] at H
                  exact absurd H (by simp)
                replace c25 := Bool.eq_false_iff.mpr c25
                subst c25
                have H1 : (none) = some r := by rw [if_neg (show ¬ (false = true) by decide)] at H; exact H
                clear H
                have H := H1
                clear H1
                exact absurd H (by simp)
              replace c23 := Bool.eq_false_iff.mpr c23
              subst c23
              have H1 : (none) = some r := by rw [if_neg (show ¬ (false = true) by decide)] at H; exact H
              clear H
              have H := H1
              clear H1
              exact absurd H (by simp)
            rw [if_neg c21] at H
            exact absurd H (by simp)
          rw [if_neg c19] at H
          have c19b0 : (t926 == 0) = false := beq_eq_false_iff_ne.mpr c19
          have c19b1 : (t926 != 0) = true := bne_iff_ne.mpr c19
          (first | rw [c19b0] | (simp only [i64_w, i32_w]; rw [c19b0]) | rw [c19b1] | skip)
          replace H := Option.bind_eq_some_iff.mp H
          obtain ⟨t950, A440, H⟩ := H
          replace H : (if t950 = true then (none) else (crossbarlaw06_PacketBack.j1 kj4 l1)) = some r := H
          have A44 := Aside0.mk A440
          clear A440
          by_cases c45 : t950 = true
          · subst c45
            have H1 : (none) = some r := by rw [if_pos rfl] at H; exact H
            clear H
            have H := H1
            clear H1
            exact absurd H (by simp)
          replace c45 := Bool.eq_false_iff.mpr c45
          subst c45
          have H1 : (crossbarlaw06_PacketBack.j1 kj4 l1) = some r := by rw [if_neg (show ¬ (false = true) by decide)] at H; exact H
          clear H
          have H := H1
          clear H1
          have H' := Aside0.mk H
          clear H
          obtain ⟨hcz46_0, hcz46_1, hcz46_2, hcz46_3, hcz46_4, hcz46_5, hcz46_6, hcz46_7, hcz46_8, hcz46_9, hcz46_10, hcz46_11, hfz46_0, hfz46_1, hfz46_2, hfz46_3, hfz46_4, hfz46_5, hfz46_6, hfz46_7, hfz46_8, hfz46_9, hfz46_10, hfz46_11⟩ := bc12 BK920.out
          go_wp2_with (first | ((with_reducible refine gate_callee (f := 27) rfl ?_); refine goesL_ (some 63) rfl rfl Try.func27 (by kernel_rfl) rfl #[.agg #[.bool a0_0, .bool a0_1, .bool a0_2, .int .i64 a0_3, .int .u16 a0_4, .int .u32 a0_5, .int .u32 a0_6, .slice A0_7 l0_7.length c0_7, .int .u16 a0_8, .slice A0_9 l0_9.length c0_9, .slice A0_10 l0_10.length c0_10, .int .i64 a0_11]] rfl (by (try simp only [List.map_toArray, List.map_cons, List.map_nil]); first | done | rfl | (simp only [List.length_drop, List.length_take]; rfl)) ?_; (with_reducible refine (packet_Right.calls kj4 a0_0 a0_1 a0_2 a0_3 a0_4 a0_5 a0_6 _ _ l0_7 a0_8 _ _ l0_9 _ _ l0_10 a0_11 false _ ?side1 ?side2 ?side3 ?side4 ?side5 ?side6 A44.out).mono ?_); (case side1 => repeat (first | exact (Kd.C_below HR0_7.out HB.out) | (with_reducible refine Kd.C_alloc ?_ _) | (with_reducible refine Kd.C_drewN ?_ _) | (with_reducible refine Kd.C_drew ?_))); (case side2 => exact HC0_7.out); (case side3 => repeat (first | exact (Kd.C_below HR0_9.out HB.out) | (with_reducible refine Kd.C_alloc ?_ _) | (with_reducible refine Kd.C_drewN ?_ _) | (with_reducible refine Kd.C_drew ?_))); (case side4 => exact HC0_9.out); (case side5 => repeat (first | exact (Kd.C_below HR0_10.out HB.out) | (with_reducible refine Kd.C_alloc ?_ _) | (with_reducible refine Kd.C_drewN ?_ _) | (with_reducible refine Kd.C_drew ?_))); (case side6 => exact HC0_10.out); rintro e w47 ⟨rfl, hb⟩; refine ⟨_, rfl, ?_⟩; replace HO925 := rbE HO925 hb; replace BK920 := bbE BK920 hb; replace HB := bstE HB hb; (try clear hb); (try clear hb2); (try clear hk); (try clear hi)))
          go_meet
          case rel => exact ⟨_, H', ⟨by have := HJ4.out; first | omega | exact Nat.le_refl _⟩, ⟨by (with_reducible repeat (first | refine blk_drewN ?_ _ | refine blk_drew ?_ | refine blk_alloc ?_ _)); exact BK920.out⟩, ⟨by repeat (first | (with_reducible first | exact HB.out | apply below_alloc | apply pw_below_drewN | apply below_drew1 | refine below_set ?_ GE920.out) | exact HB.out)⟩⟩
        case rest =>
          clear HC16
          try clear c1
          try clear c2
          try clear p2
          try clear c3
          try clear c4
          try clear c7
          try clear c9
          try clear c14
          try clear c17
          try clear c19
          try clear c19b0
          try clear c19b1
          try clear c20
          try clear c21
          try clear c21b0
          try clear c21b1
          try clear c22
          try clear c23
          try clear c25
          try clear c27
          try clear c27b0
          try clear c27b1
          try clear c28
          try clear c28b0
          try clear c28b1
          try clear c32
          try clear c45
          try clear hcz10_0
          try clear hcz10_1
          try clear hcz10_10
          try clear hcz10_11
          try clear hcz10_2
          try clear hcz10_3
          try clear hcz10_4
          try clear hcz10_5
          try clear hcz10_6
          try clear hcz10_7
          try clear hcz10_8
          try clear hcz10_9
          try clear hcz12_0
          try clear hcz12_1
          try clear hcz12_10
          try clear hcz12_11
          try clear hcz12_2
          try clear hcz12_3
          try clear hcz12_4
          try clear hcz12_5
          try clear hcz12_6
          try clear hcz12_7
          try clear hcz12_8
          try clear hcz12_9
          try clear hcz17_0
          try clear hcz17_1
          try clear hcz17_10
          try clear hcz17_11
          try clear hcz17_2
          try clear hcz17_3
          try clear hcz17_4
          try clear hcz17_5
          try clear hcz17_6
          try clear hcz17_7
          try clear hcz17_8
          try clear hcz17_9
          try clear hcz33_0
          try clear hcz33_1
          try clear hcz33_10
          try clear hcz33_11
          try clear hcz33_2
          try clear hcz33_3
          try clear hcz33_4
          try clear hcz33_5
          try clear hcz33_6
          try clear hcz33_7
          try clear hcz33_8
          try clear hcz33_9
          try clear hcz38_0
          try clear hcz38_1
          try clear hcz38_10
          try clear hcz38_11
          try clear hcz38_2
          try clear hcz38_3
          try clear hcz38_4
          try clear hcz38_5
          try clear hcz38_6
          try clear hcz38_7
          try clear hcz38_8
          try clear hcz38_9
          try clear hcz39_0
          try clear hcz39_1
          try clear hcz39_10
          try clear hcz39_11
          try clear hcz39_2
          try clear hcz39_3
          try clear hcz39_4
          try clear hcz39_5
          try clear hcz39_6
          try clear hcz39_7
          try clear hcz39_8
          try clear hcz39_9
          try clear hcz42_0
          try clear hcz42_1
          try clear hcz42_10
          try clear hcz42_11
          try clear hcz42_2
          try clear hcz42_3
          try clear hcz42_4
          try clear hcz42_5
          try clear hcz42_6
          try clear hcz42_7
          try clear hcz42_8
          try clear hcz42_9
          try clear hcz46_0
          try clear hcz46_1
          try clear hcz46_10
          try clear hcz46_11
          try clear hcz46_2
          try clear hcz46_3
          try clear hcz46_4
          try clear hcz46_5
          try clear hcz46_6
          try clear hcz46_7
          try clear hcz46_8
          try clear hcz46_9
          try clear hfz10_0
          try clear hfz10_1
          try clear hfz10_10
          try clear hfz10_11
          try clear hfz10_2
          try clear hfz10_3
          try clear hfz10_4
          try clear hfz10_5
          try clear hfz10_6
          try clear hfz10_7
          try clear hfz10_8
          try clear hfz10_9
          try clear hfz12_0
          try clear hfz12_1
          try clear hfz12_10
          try clear hfz12_11
          try clear hfz12_2
          try clear hfz12_3
          try clear hfz12_4
          try clear hfz12_5
          try clear hfz12_6
          try clear hfz12_7
          try clear hfz12_8
          try clear hfz12_9
          try clear hfz17_0
          try clear hfz17_1
          try clear hfz17_10
          try clear hfz17_11
          try clear hfz17_2
          try clear hfz17_3
          try clear hfz17_4
          try clear hfz17_5
          try clear hfz17_6
          try clear hfz17_7
          try clear hfz17_8
          try clear hfz17_9
          try clear hfz33_0
          try clear hfz33_1
          try clear hfz33_10
          try clear hfz33_11
          try clear hfz33_2
          try clear hfz33_3
          try clear hfz33_4
          try clear hfz33_5
          try clear hfz33_6
          try clear hfz33_7
          try clear hfz33_8
          try clear hfz33_9
          try clear hfz38_0
          try clear hfz38_1
          try clear hfz38_10
          try clear hfz38_11
          try clear hfz38_2
          try clear hfz38_3
          try clear hfz38_4
          try clear hfz38_5
          try clear hfz38_6
          try clear hfz38_7
          try clear hfz38_8
          try clear hfz38_9
          try clear hfz39_0
          try clear hfz39_1
          try clear hfz39_10
          try clear hfz39_11
          try clear hfz39_2
          try clear hfz39_3
          try clear hfz39_4
          try clear hfz39_5
          try clear hfz39_6
          try clear hfz39_7
          try clear hfz39_8
          try clear hfz39_9
          try clear hfz42_0
          try clear hfz42_1
          try clear hfz42_10
          try clear hfz42_11
          try clear hfz42_2
          try clear hfz42_3
          try clear hfz42_4
          try clear hfz42_5
          try clear hfz42_6
          try clear hfz42_7
          try clear hfz42_8
          try clear hfz42_9
          try clear hfz46_0
          try clear hfz46_1
          try clear hfz46_10
          try clear hfz46_11
          try clear hfz46_2
          try clear hfz46_3
          try clear hfz46_4
          try clear hfz46_5
          try clear hfz46_6
          try clear hfz46_7
          try clear hfz46_8
          try clear hfz46_9
          try clear p2
          obtain ⟨kq, HA, HJ15, BK920, HB⟩ := hcut
          cases kq with
          | zero => exact absurd HA.out (by simp [crossbarlaw06_PacketBack.j1])
          | succ kj15 =>
            have H := HA.out
            clear HA
            simp only [crossbarlaw06_PacketBack.j1] at H
            replace H := Option.bind_eq_some_iff.mp H
            obtain ⟨⟨t951, t952, t953, t954, t955, t956, t957, t958, t961, t962, t965, t968, t969⟩, A480, H⟩ := H
            replace H : (if t969 = 0 then ((packet_Write.f kj15 t951 t952 t953 t954 t955 t956 t957 t958 t961 t962 t965 t968 (l1.length : Int)).bind fun bt973 => (if bt973.2 = 0 then ((packet_Right.f kj15 t951 t952 t953 t954 t955 t956 t957 t958 t961 t962 t965 t968).bind fun t977 => (if t977 = true then (if (bt973.1.length : Int) = (l1.length : Int) then ((packet_Canon.f kj15 l1).bind fun t978 => (crossbarlaw06_PacketBack.j2 kj15 bt973.1 (t978 != ((strOfNums bt973.1).toList == (strOfNums l1).toList)) t951 t952 t953 t954 t955 t956 t957 t958 t961 t962 t965 t968)) else (crossbarlaw06_PacketBack.j2 kj15 bt973.1 true t951 t952 t953 t954 t955 t956 t957 t958 t961 t962 t965 t968)) else (crossbarlaw06_PacketBack.j2 kj15 bt973.1 true t951 t952 t953 t954 t955 t956 t957 t958 t961 t962 t965 t968))) else (crossbarlaw06_PacketBack.j2 kj15 bt973.1 true t951 t952 t953 t954 t955 t956 t957 t958 t961 t962 t965 t968))) else ((packet_Canon.f kj15 l1).bind fun t971 => (if t971 = true then (none) else ((crossbarref06_Same.f kj15 t951 t952 t953 t954 t955 t956 t957 t958 t961 t962 t965 t968 false false false 0 0 0 0 ([] : List Int) 0 ([] : List Int) ([] : List Int) 0).bind fun t972 => (some t972))))) = some r := H
            have A48 := Aside0.mk A480
            clear A480
            by_cases c49 : t969 = 0
            · rw [if_pos c49] at H
              have c49b0 : (t969 == 0) = true := beq_iff_eq.mpr c49
              have c49b1 : (t969 != 0) = false := bne_eq_false_iff_eq.mpr c49
              clear c49
              replace H := Option.bind_eq_some_iff.mp H
              obtain ⟨⟨t973, t976⟩, A500, H⟩ := H
              replace H : (if t976 = 0 then ((packet_Right.f kj15 t951 t952 t953 t954 t955 t956 t957 t958 t961 t962 t965 t968).bind fun t977 => (if t977 = true then (if (t973.length : Int) = (l1.length : Int) then ((packet_Canon.f kj15 l1).bind fun t978 => (crossbarlaw06_PacketBack.j2 kj15 t973 (t978 != ((strOfNums t973).toList == (strOfNums l1).toList)) t951 t952 t953 t954 t955 t956 t957 t958 t961 t962 t965 t968)) else (crossbarlaw06_PacketBack.j2 kj15 t973 true t951 t952 t953 t954 t955 t956 t957 t958 t961 t962 t965 t968)) else (crossbarlaw06_PacketBack.j2 kj15 t973 true t951 t952 t953 t954 t955 t956 t957 t958 t961 t962 t965 t968))) else (crossbarlaw06_PacketBack.j2 kj15 t973 true t951 t952 t953 t954 t955 t956 t957 t958 t961 t962 t965 t968)) = some r := H
              have A50 := Aside0.mk A500
              clear A500
              have HC51 := Aside0.mk H
              clear H
              go_upto_region 16 with (first | ((with_reducible refine gate_callee (f := 17) rfl ?_); refine goesL_ (some 66) rfl rfl Try.func17 (by kernel_rfl) rfl #[.slice A1 l1.length c1] rfl (by (try simp only [List.map_toArray, List.map_cons, List.map_nil]); first | done | rfl | (simp only [List.length_drop, List.length_take]; rfl)) ?_; (with_reducible refine (packet_Read.calls kj15 _ _ l1 t951 t952 t953 t954 t955 t956 t957 t958 t961 t962 t965 t968 t969 _ ?side1 ?side2 A48.out).mono ?_); (case side1 => repeat (first | exact (Kd.C_below HR1.out HB.out) | (with_reducible refine Kd.C_alloc ?_ _) | (with_reducible refine Kd.C_drewN ?_ _) | (with_reducible refine Kd.C_drew ?_))); (case side2 => exact HC1.out); rintro e w52 ⟨v959, v963, v966, rfl, ho0, ho1, ho2, hb⟩; refine ⟨_, rfl, ?_⟩; have HO960 := Aside0.mk (Kd.R_lower ho0 (below_size (pB HB))); have HO964 := Aside0.mk (Kd.R_lower ho1 (below_size (pB HB))); have HO967 := Aside0.mk (Kd.R_lower ho2 (below_size (pB HB))); replace BK920 := bbE BK920 hb; replace HB := bstE HB hb; (try clear hb); (try clear hb2); (try clear hk); (try clear hi); (try clear ho0); (try clear ho1); (try clear ho2)) | ((with_reducible refine gate_dst (N := 9) rfl ?_); (try (refine gate_guard (by rfl) ?_; dsimp only)); refine box_event ?hg (N := 9) ?hd (cs := #[.bool false, .bool false, .bool false, .int .i64 0, .int .u16 0, .int .u32 0, .int .u32 0, .slice none 0 0, .int .u16 0, .slice none 0 0, .slice none 0 0, .int .i64 0]) (t := 45) ?hr ?_; (case hd => rfl); (case hg => rfl); (case hr => first | (go_simp; done) | (go_simp; rfl)); intro gb970 hg w53 hbox hb; replace HO960 := rbE HO960 hb; replace HO964 := rbE HO964 hb; replace HO967 := rbE HO967 hb; have n3_ := bbE BK920 hb; have n4_ := bstE HB hb; have BK970 := Aside0.mk (hbox); have GW970 := geE hg HB; have GE970 := geE hg HB; have NB920_970 := nlE hg BK920; have NB970_920 := ngE hg BK920; clear BK920; clear HB; have BK920 := n3_; have HB := n4_; clear n3_ n4_; clear hb hbox hg; have hnb54 := NB970_920.out; have hnc54 := NB920_970.out; obtain ⟨hcz55_0, hcz55_1, hcz55_2, hcz55_3, hcz55_4, hcz55_5, hcz55_6, hcz55_7, hcz55_8, hcz55_9, hcz55_10, hcz55_11, hfz55_0, hfz55_1, hfz55_2, hfz55_3, hfz55_4, hfz55_5, hfz55_6, hfz55_7, hfz55_8, hfz55_9, hfz55_10, hfz55_11⟩ := bc12 BK970.out; obtain ⟨Ao56, co56, eo56⟩ := Kd.R_slice HO960.out; subst eo56; obtain ⟨Ao57, co57, eo57⟩ := Kd.R_slice HO964.out; subst eo57; obtain ⟨Ao58, co58, eo58⟩ := Kd.R_slice HO967.out; subst eo58) | ((with_reducible refine gate_store (t := 45) (p := 9) rfl ?_); refine store_event (t := 45) (p := 9) (v := ?vo_w59) (w1 := ((((((((((((w53.setCell ⟨gb970, 0, none⟩ (.bool t951)).setCell ⟨gb970, 1, none⟩ (.bool t952)).setCell ⟨gb970, 2, none⟩ (.bool t953)).setCell ⟨gb970, 3, none⟩ (.int .i64 t954)).setCell ⟨gb970, 4, none⟩ (.int .u16 t955)).setCell ⟨gb970, 5, none⟩ (.int .u32 t956)).setCell ⟨gb970, 6, none⟩ (.int .u32 t957)).setCell ⟨gb970, 7, none⟩ (.slice Ao56 t958.length co56)).setCell ⟨gb970, 8, none⟩ (.int .u16 t961)).setCell ⟨gb970, 9, none⟩ (.slice Ao57 t962.length co57)).setCell ⟨gb970, 10, none⟩ (.slice Ao58 t965.length co58)).setCell ⟨gb970, 11, none⟩ (.int .i64 t968))) ?hg ?ho ?hn ?hr ?_; (case ho => rfl); (case hg => rfl); (case hn => rfl); (case hr => first | (go_simp; done) | (go_simp; rfl)); intro w59 hw; replace HO960 := rfE hw HO960 BK970; replace HO964 := rfE hw HO964 BK970; replace HO967 := rfE hw HO967 BK970; replace BK920 := bfE hw BK920 NB920_970; replace BK970 : Aside0 (w59.heap[gb970]? = some (.cells #[.bool t951, .bool t952, .bool t953, .int .i64 t954, .int .u16 t955, .int .u32 t956, .int .u32 t957, .slice Ao56 t958.length co56, .int .u16 t961, .slice Ao57 t962.length co57, .slice Ao58 t965.length co58, .int .i64 t968] 45 (0, 0))) := ⟨by rw [hw]; apply puts12; exact BK970.out⟩; replace HB := bsE hw HB GE970; clear hw; obtain ⟨hcz60_0, hcz60_1, hcz60_2, hcz60_3, hcz60_4, hcz60_5, hcz60_6, hcz60_7, hcz60_8, hcz60_9, hcz60_10, hcz60_11, hfz60_0, hfz60_1, hfz60_2, hfz60_3, hfz60_4, hfz60_5, hfz60_6, hfz60_7, hfz60_8, hfz60_9, hfz60_10, hfz60_11⟩ := bc12 BK970.out) | ((with_reducible refine gate_callee (f := 22) rfl ?_); refine goesL_ (some 83) rfl rfl Try.func22 (by kernel_rfl) rfl #[.agg #[.bool t951, .bool t952, .bool t953, .int .i64 t954, .int .u16 t955, .int .u32 t956, .int .u32 t957, .slice Ao56 t958.length co56, .int .u16 t961, .slice Ao57 t962.length co57, .slice Ao58 t965.length co58, .int .i64 t968], .int .i64 (l1.length : Int)] rfl (by (try simp only [List.map_toArray, List.map_cons, List.map_nil]); first | done | rfl | (simp only [List.length_drop, List.length_take]; rfl)) ?_; (with_reducible refine (packet_Write.calls kj15 t951 t952 t953 t954 t955 t956 t957 _ _ t958 t961 (fun k_ => some k_ = (.slice Ao57 t962.length co57 : Value).ownBlock) _ _ t962 (fun k_ => some k_ = (.slice Ao58 t965.length co58 : Value).ownBlock) _ _ t965 t968 (l1.length : Int) t973 t976 _ ?side1 ?side2 ?side3 ?side4 A50.out).mono ?_); (case side1 => repeat (first | exact (Kd.R_reads' HO960.out).2.2 | (with_reducible refine Kd.C_alloc ?_ _) | (with_reducible refine Kd.C_drewN ?_ _) | (with_reducible refine Kd.C_drew ?_))); (case side2 => exact (Kd.R_reads' HO960.out).2.1); (case side3 => exact Kd.R_V (Kd.R_tight rfl (Kd.R_types (Kd.R_types (Kd.R_apart' (HO964.out) (Kd.R_typed HO960.out) (by decide)) BK920.out (by decide)) BK970.out (by decide)))); (case side4 => exact Kd.R_V (Kd.R_tight rfl (Kd.R_types (Kd.R_types (Kd.R_apart' (HO967.out) (Kd.R_typed HO960.out) (by decide)) BK920.out (by decide)) BK970.out (by decide)))); rintro e w61 ⟨v974, rfl, ho0, hb⟩; refine ⟨_, rfl, ?_⟩; replace HO960 := rbE HO960 hb; have n1_ := Aside0.mk (Kd.R_elder' (pR HO964) (Kd.R_base ho0) hb); have n2_ := Aside0.mk (Kd.R_elder' (pR HO967) (Kd.R_base ho0) hb); have HO975 := Aside0.mk (Kd.R_lower (Kd.R_new' (Kd.R_new' (Kd.R_mono (ok' := fun k_ => True) ho0 (fun _ hk_ => trivial)) (Kd.R_lt (pR HO964))) (Kd.R_lt (pR HO967))) (below_size (pB HB))); replace BK920 := bbE BK920 hb; replace BK970 := bbE BK970 hb; replace HB := bstE HB hb; clear HO964; clear HO967; have HO964 := n1_; have HO967 := n2_; clear n1_ n2_; (try clear hb); (try clear hb2); (try clear hk); (try clear hi); (try clear ho0)))
              (try simp only [Act.put, List.setIfInBounds_toArray, List.set_cons_zero, List.set_cons_succ])
              go_cut [109] (fun v109 wc => ∃ (kq : Nat) (x109_50 : Bool), v109 = .bool x109_50 ∧ Aside0 (crossbarlaw06_PacketBack.j2 kq t973 x109_50 t951 t952 t953 t954 t955 t956 t957 t958 t961 t962 t965 t968 = some r) ∧ Aside0 (kq ≤ kj15) ∧ Aside0 (Kd.R (Kd.int .u8) 5 wc w.heap.size (fun k_ => some k_ ≠ ((.slice Ao57 t962.length co57) : Value).ownBlock ∧ some k_ ≠ ((.slice Ao58 t965.length co58) : Value).ownBlock) v974 t973) ∧ Aside0 (Kd.R (Kd.int .u32) 40 wc w.heap.size (fun _ => True) (.slice Ao56 t958.length co56) t958) ∧ Aside0 (Kd.R (Kd.int .u8) 5 wc w.heap.size (fun k_ => some k_ ≠ (v974 : Value).ownBlock ∧ some k_ ≠ ((.slice Ao58 t965.length co58) : Value).ownBlock) (.slice Ao57 t962.length co57) t962) ∧ Aside0 (Kd.R (Kd.int .u8) 5 wc w.heap.size (fun k_ => some k_ ≠ (v974 : Value).ownBlock ∧ some k_ ≠ ((.slice Ao57 t962.length co57) : Value).ownBlock) (.slice Ao58 t965.length co58) t965) ∧ Aside0 (wc.heap[gb920]? = some (.cells #[.bool a0_0, .bool a0_1, .bool a0_2, .int .i64 a0_3, .int .u16 a0_4, .int .u32 a0_5, .int .u32 a0_6, (.slice A0_7 l0_7.length c0_7), .int .u16 a0_8, (.slice A0_9 l0_9.length c0_9), (.slice A0_10 l0_10.length c0_10), .int .i64 a0_11] 45 (0, 0))) ∧ Aside0 (wc.heap[gb970]? = some (.cells #[.bool t951, .bool t952, .bool t953, .int .i64 t954, .int .u16 t955, .int .u32 t956, .int .u32 t957, (.slice Ao56 t958.length co56), .int .u16 t961, (.slice Ao57 t962.length co57), (.slice Ao58 t965.length co58), .int .i64 t968] 45 (0, 0))) ∧ Aside0 (Below w.heap.size w wc))
              case first =>
                have H := HC51.out
                clear HC51
                by_cases c62 : t976 = 0
                · rw [if_pos c62] at H
                  have c62b0 : (t976 == 0) = true := beq_iff_eq.mpr c62
                  have c62b1 : (t976 != 0) = false := bne_eq_false_iff_eq.mpr c62
                  clear c62
                  (first | rw [c62b0] | (simp only [i64_w, i32_w]; rw [c62b0]) | rw [c62b1] | skip)
                  replace H := Option.bind_eq_some_iff.mp H
                  obtain ⟨t977, A630, H⟩ := H
                  replace H : (if t977 = true then (if (t973.length : Int) = (l1.length : Int) then ((packet_Canon.f kj15 l1).bind fun t978 => (crossbarlaw06_PacketBack.j2 kj15 t973 (t978 != ((strOfNums t973).toList == (strOfNums l1).toList)) t951 t952 t953 t954 t955 t956 t957 t958 t961 t962 t965 t968)) else (crossbarlaw06_PacketBack.j2 kj15 t973 true t951 t952 t953 t954 t955 t956 t957 t958 t961 t962 t965 t968)) else (crossbarlaw06_PacketBack.j2 kj15 t973 true t951 t952 t953 t954 t955 t956 t957 t958 t961 t962 t965 t968)) = some r := H
                  have A63 := Aside0.mk A630
                  clear A630
                  by_cases c64 : t977 = true
                  · subst c64
                    have H1 : (if (t973.length : Int) = (l1.length : Int) then ((packet_Canon.f kj15 l1).bind fun t978 => (crossbarlaw06_PacketBack.j2 kj15 t973 (t978 != ((strOfNums t973).toList == (strOfNums l1).toList)) t951 t952 t953 t954 t955 t956 t957 t958 t961 t962 t965 t968)) else (crossbarlaw06_PacketBack.j2 kj15 t973 true t951 t952 t953 t954 t955 t956 t957 t958 t961 t962 t965 t968)) = some r := by rw [if_pos rfl] at H; exact H
                    clear H
                    have H := H1
                    clear H1
                    by_cases c65 : (t973.length : Int) = (l1.length : Int)
                    · rw [if_pos c65] at H
                      have c65b0 : ((t973.length : Int) == (l1.length : Int)) = true := beq_iff_eq.mpr c65
                      have c65b1 : ((t973.length : Int) != (l1.length : Int)) = false := bne_eq_false_iff_eq.mpr c65
                      have c65b2 : (t973.length == l1.length) = true := by first | simpa using c65 | (simp at c65 ⊢; omega)
                      clear c65
                      replace H := Option.bind_eq_some_iff.mp H
                      obtain ⟨t978, A660, H⟩ := H
                      replace H : (crossbarlaw06_PacketBack.j2 kj15 t973 (t978 != ((strOfNums t973).toList == (strOfNums l1).toList)) t951 t952 t953 t954 t955 t956 t957 t958 t961 t962 t965 t968) = some r := H
                      have A66 := Aside0.mk A660
                      clear A660
                      have H' := Aside0.mk H
                      clear H
                      try go_wp2
                      replace HO960 := Aside0.mk (Kd.R_drew HO960.out)
                      replace HO964 := Aside0.mk (Kd.R_drew HO964.out)
                      replace HO967 := Aside0.mk (Kd.R_drew HO967.out)
                      replace HO975 := Aside0.mk (Kd.R_drew HO975.out)
                      replace BK920 := Aside0.mk (blk_drew BK920.out)
                      replace BK970 := Aside0.mk (blk_drew BK970.out)
                      replace HB := Aside0.mk (below_drew1 HB.out)
                      refine start_ (n := 24) (S := fun w' => w'.cell? ⟨gb970, 0, none⟩ = some (.bool t951) ∧ w'.cell? ⟨gb970, 1, none⟩ = some (.bool t952) ∧ w'.cell? ⟨gb970, 2, none⟩ = some (.bool t953) ∧ w'.cell? ⟨gb970, 3, none⟩ = some (.int .i64 t954) ∧ w'.cell? ⟨gb970, 4, none⟩ = some (.int .u16 t955) ∧ w'.cell? ⟨gb970, 5, none⟩ = some (.int .u32 t956) ∧ w'.cell? ⟨gb970, 6, none⟩ = some (.int .u32 t957) ∧ w'.cell? ⟨gb970, 7, none⟩ = some (.slice Ao56 t958.length co56) ∧ w'.cell? ⟨gb970, 8, none⟩ = some (.int .u16 t961) ∧ w'.cell? ⟨gb970, 9, none⟩ = some (.slice Ao57 t962.length co57) ∧ w'.cell? ⟨gb970, 10, none⟩ = some (.slice Ao58 t965.length co58) ∧ w'.cell? ⟨gb970, 11, none⟩ = some (.int .i64 t968) ∧ (convert 22 9 (v974)).run Try.prog w' = .ok (.string (strOfNums t973)) w' ∧ (convert 22 9 (.slice A1 l1.length c1)).run Try.prog w' = .ok (.string (strOfNums l1)) w') (ds := []) #[false, false, false, false, false, false, false, false, false, false, false, false, false, false, false, false, false, false, false, false, false, false, false, false] (by kernel_rfl) rfl rfl ⟨(blk_cell BK970.out 0).trans rfl, (blk_cell BK970.out 1).trans rfl, (blk_cell BK970.out 2).trans rfl, (blk_cell BK970.out 3).trans rfl, (blk_cell BK970.out 4).trans rfl, (blk_cell BK970.out 5).trans rfl, (blk_cell BK970.out 6).trans rfl, (blk_cell BK970.out 7).trans rfl, (blk_cell BK970.out 8).trans rfl, (blk_cell BK970.out 9).trans rfl, (blk_cell BK970.out 10).trans rfl, (blk_cell BK970.out 11).trans rfl, (own_string (P := Try.prog) Try.underlying22 Try.underlying5 Try.underlying9 (Kd.own_of_R HO975.out)), (Kd.C_string (P := Try.prog) (A := A1) (c := c1) Try.underlying22 Try.underlying5 Try.underlying9 (Kd.C_below HR1.out HB.out))⟩ (fun hHeld => ?_); refine with_tabW crossbarlaw06_PacketBack.tab16 crossbarlaw06_PacketBack.bits16 (fun HT_ HW_ => ?_)
                      generalize w61.drew = w67 at HO960 HO964 HO967 HO975 BK920 BK970 HB hHeld ⊢
                      refine pure_ (i := 0) (N := some 86) (v := ?_) (a' := ?_) #[true, false, false, false, false, false, false, false, false, false, false, false, false, false, false, false, false, false, false, false, false, false, false, false] rfl rfl (any_of HT_.out (by kernel_rfl)) (fun _ _ _ h => h) (Or.inl ⟨by rfl, ?_⟩) ?_ ?_
                      rotate_left
                      · intro w'
                        go_simp
                        with_reducible rfl
                      rotate_left
                      · simp only [Act.put, List.setIfInBounds_toArray, List.set_cons_zero, List.set_cons_succ, i64_w, i32_w]
                        rfl
                      refine pure_ (i := 1) (N := some 87) (v := ?_) (a' := ?_) #[true, true, false, false, false, false, false, false, false, false, false, false, false, false, false, false, false, false, false, false, false, false, false, false] rfl rfl (any_of HT_.out (by kernel_rfl)) (fun _ _ _ h => h) (Or.inl ⟨by rfl, ?_⟩) ?_ ?_
                      rotate_left
                      · intro w'
                        go_simp
                        with_reducible rfl
                      rotate_left
                      · simp only [Act.put, List.setIfInBounds_toArray, List.set_cons_zero, List.set_cons_succ, i64_w, i32_w]
                        rfl
                      refine pure_ (i := 2) (N := some 88) (v := ?_) (a' := ?_) #[true, true, true, false, false, false, false, false, false, false, false, false, false, false, false, false, false, false, false, false, false, false, false, false] rfl rfl (any_of HT_.out (by kernel_rfl)) (fun _ _ _ h => h) (Or.inl ⟨by rfl, ?_⟩) ?_ ?_
                      rotate_left
                      · intro w'
                        go_simp
                        with_reducible rfl
                      rotate_left
                      · simp only [Act.put, List.setIfInBounds_toArray, List.set_cons_zero, List.set_cons_succ, i64_w, i32_w]
                        rfl
                      refine take_ (i := 3) (N := some 89) (v := ?_) (a' := ?_) #[true, true, true, true, false, false, false, false, false, false, false, false, false, false, false, false, false, false, false, false, false, false, false, false] rfl rfl (take_ofW HT_.out HW_.out (by kernel_rfl)) (fun _ _ _ h => h) (Or.inl ⟨by rfl, ?_⟩) hHeld ?_ ?_
                      rotate_left
                      · rintro w' ⟨s0, s1, s2, s3, s4, s5, s6, s7, s8, s9, s10, s11, s12, s13⟩
                        go_simp
                        with_reducible rfl
                      rotate_left
                      · simp only [Act.put, List.setIfInBounds_toArray, List.set_cons_zero, List.set_cons_succ, i64_w, i32_w]
                        rfl
                      refine one_ (i := 4) (N := some 90) #[true, true, true, true, true, false, false, false, false, false, false, false, false, false, false, false, false, false, false, false, false, false, false, false] rfl rfl (one_of HT_.out (by kernel_rfl)) (by decide) (fun K hK => ?_)
                      refine goes_ Try.func27 (by kernel_rfl) rfl #[.agg #[.bool t951, .bool t952, .bool t953, .int .i64 t954, .int .u16 t955, .int .u32 t956, .int .u32 t957, .slice Ao56 t958.length co56, .int .u16 t961, .slice Ao57 t962.length co57, .slice Ao58 t965.length co58, .int .i64 t968]] (by rfl) rfl rfl (by (try simp only [List.map_toArray, List.map_cons, List.map_nil]); first | done | rfl | (simp only [List.length_drop, List.length_take]; rfl)) ?_
                      with_reducible refine (packet_Right.calls kj15 t951 t952 t953 t954 t955 t956 t957 _ _ t958 t961 _ _ t962 _ _ t965 t968 true _ ?side1 ?side2 ?side3 ?side4 ?side5 ?side6 A63.out).mono ?_
                      (case side1 => repeat (first | exact (Kd.R_reads' HO960.out).2.2 | (with_reducible refine Kd.C_alloc ?_ _) | (with_reducible refine Kd.C_drewN ?_ _) | (with_reducible refine Kd.C_drew ?_)))
                      (case side2 => exact (Kd.R_reads' HO960.out).2.1)
                      (case side3 => repeat (first | exact (Kd.R_reads' HO964.out).2.2 | (with_reducible refine Kd.C_alloc ?_ _) | (with_reducible refine Kd.C_drewN ?_ _) | (with_reducible refine Kd.C_drew ?_)))
                      (case side4 => exact (Kd.R_reads' HO964.out).2.1)
                      (case side5 => repeat (first | exact (Kd.R_reads' HO967.out).2.2 | (with_reducible refine Kd.C_alloc ?_ _) | (with_reducible refine Kd.C_drewN ?_ _) | (with_reducible refine Kd.C_drew ?_)))
                      (case side6 => exact (Kd.R_reads' HO967.out).2.1)
                      rintro e w68 ⟨rfl, hb⟩
                      refine ⟨_, rfl, ?_⟩
                      replace HO960 := rbE HO960 hb
                      replace HO964 := rbE HO964 hb
                      replace HO967 := rbE HO967 hb
                      replace HO975 := rbE HO975 hb
                      replace BK920 := bbE BK920 hb
                      replace BK970 := bbE BK970 hb
                      replace HB := bstE HB hb
                      (try clear hb)
                      (try clear hb2)
                      (try clear hk)
                      (try clear hi)
                      obtain ⟨Ao69, co69, eo69⟩ := Kd.R_slice HO975.out
                      (first | subst eo69 | (injection eo69 with f1_ f2_ f3_; have f4_ := f1_.symm; have f5_ := f3_.symm; clear f1_ f2_ f3_; subst f4_; subst f5_))
                      refine hK.out _ _ ⟨(blk_cell BK970.out 0).trans rfl, (blk_cell BK970.out 1).trans rfl, (blk_cell BK970.out 2).trans rfl, (blk_cell BK970.out 3).trans rfl, (blk_cell BK970.out 4).trans rfl, (blk_cell BK970.out 5).trans rfl, (blk_cell BK970.out 6).trans rfl, (blk_cell BK970.out 7).trans rfl, (blk_cell BK970.out 8).trans rfl, (blk_cell BK970.out 9).trans rfl, (blk_cell BK970.out 10).trans rfl, (blk_cell BK970.out 11).trans rfl, (own_string (P := Try.prog) Try.underlying22 Try.underlying5 Try.underlying9 (Kd.own_of_R HO975.out)), (Kd.C_string (P := Try.prog) (A := A1) (c := c1) Try.underlying22 Try.underlying5 Try.underlying9 (Kd.C_below HR1.out HB.out))⟩ (fun hHeld => ?_)
                      clear hK K
                      refine norm_ (a' := ?_) ?_ ?_
                      rotate_left
                      · show Act.put _ (some 90) _ = _
                        simp only [Act.put, List.setIfInBounds_toArray, List.set_cons_zero, List.set_cons_succ, i64_w, i32_w]
                        rfl
                      refine pure_ (i := 5) (N := some 91) (v := ?_) (a' := ?_) #[true, true, true, true, true, true, false, false, false, false, false, false, false, false, false, false, false, false, false, false, false, false, false, false] rfl rfl (any_of HT_.out (by kernel_rfl)) (fun _ _ _ h => h) (Or.inl ⟨by rfl, ?_⟩) ?_ ?_
                      rotate_left
                      · intro w'
                        go_simp
                        with_reducible rfl
                      rotate_left
                      · simp only [Act.put, List.setIfInBounds_toArray, List.set_cons_zero, List.set_cons_succ, i64_w, i32_w]
                        rfl
                      refine pure_ (i := 6) (N := some 92) (v := ?_) (a' := ?_) #[true, true, true, true, true, true, true, false, false, false, false, false, false, false, false, false, false, false, false, false, false, false, false, false] rfl rfl (any_of HT_.out (by kernel_rfl)) (fun _ _ _ h => h) (Or.inl ⟨by rfl, ?_⟩) ?_ ?_
                      rotate_left
                      · intro w'
                        go_simp
                        with_reducible rfl
                      rotate_left
                      · simp only [Act.put, List.setIfInBounds_toArray, List.set_cons_zero, List.set_cons_succ, i64_w, i32_w]
                        rfl
                      refine pure_ (i := 7) (N := some 93) (v := ?_) (a' := ?_) #[true, true, true, true, true, true, true, true, false, false, false, false, false, false, false, false, false, false, false, false, false, false, false, false] rfl rfl (any_of HT_.out (by kernel_rfl)) (fun _ _ _ h => h) (Or.inl ⟨by rfl, ?_⟩) ?_ ?_
                      rotate_left
                      · intro w'
                        go_simp
                        with_reducible rfl
                      rotate_left
                      · simp only [Act.put, List.setIfInBounds_toArray, List.set_cons_zero, List.set_cons_succ, i64_w, i32_w]
                        rfl
                      refine pure_ (i := 8) (N := some 94) (v := ?_) (a' := ?_) #[true, true, true, true, true, true, true, true, true, false, false, false, false, false, false, false, false, false, false, false, false, false, false, false] rfl rfl (any_of HT_.out (by kernel_rfl)) (fun _ _ _ h => h) (Or.inl ⟨by rfl, ?_⟩) ?_ ?_
                      rotate_left
                      · intro w'
                        go_simp
                        with_reducible rfl
                      rotate_left
                      · simp only [Act.put, List.setIfInBounds_toArray, List.set_cons_zero, List.set_cons_succ, i64_w, i32_w]
                        rfl
                      refine pure_ (i := 9) (N := some 95) (v := ?_) (a' := ?_) #[true, true, true, true, true, true, true, true, true, true, false, false, false, false, false, false, false, false, false, false, false, false, false, false] rfl rfl (any_of HT_.out (by kernel_rfl)) (fun _ _ _ h => h) (Or.inl ⟨by rfl, ?_⟩) ?_ ?_
                      rotate_left
                      · intro w'
                        go_simp
                        with_reducible rfl
                      rotate_left
                      · simp only [Act.put, List.setIfInBounds_toArray, List.set_cons_zero, List.set_cons_succ, i64_w, i32_w]
                        rfl
                      refine pure_ (i := 10) (N := some 96) (v := ?_) (a' := ?_) #[true, true, true, true, true, true, true, true, true, true, true, false, false, false, false, false, false, false, false, false, false, false, false, false] rfl rfl (any_of HT_.out (by kernel_rfl)) (fun _ _ _ h => h) (Or.inl ⟨by rfl, ?_⟩) ?_ ?_
                      rotate_left
                      · intro w'
                        go_simp
                        with_reducible rfl
                      rotate_left
                      · simp only [Act.put, List.setIfInBounds_toArray, List.set_cons_zero, List.set_cons_succ, i64_w, i32_w]
                        rfl
                      refine pure_ (i := 11) (N := some 97) (v := ?_) (a' := ?_) #[true, true, true, true, true, true, true, true, true, true, true, true, false, false, false, false, false, false, false, false, false, false, false, false] rfl rfl (any_of HT_.out (by kernel_rfl)) (fun _ _ _ h => h) (Or.inl ⟨by rfl, ?_⟩) ?_ ?_
                      rotate_left
                      · intro w'
                        go_simp
                        with_reducible rfl
                      rotate_left
                      · simp only [Act.put, List.setIfInBounds_toArray, List.set_cons_zero, List.set_cons_succ, i64_w, i32_w]
                        rfl
                      refine pure_ (i := 12) (N := some 98) (v := ?_) (a' := ?_) #[true, true, true, true, true, true, true, true, true, true, true, true, true, false, false, false, false, false, false, false, false, false, false, false] rfl rfl (any_of HT_.out (by kernel_rfl)) (fun _ _ _ h => h) (Or.inl ⟨by rfl, ?_⟩) ?_ ?_
                      rotate_left
                      · intro w'
                        go_simp
                        with_reducible rfl
                      rotate_left
                      · simp only [Act.put, List.setIfInBounds_toArray, List.set_cons_zero, List.set_cons_succ, i64_w, i32_w]
                        rfl
                      refine pure_ (i := 13) (N := some 99) (v := ?_) (a' := ?_) #[true, true, true, true, true, true, true, true, true, true, true, true, true, true, false, false, false, false, false, false, false, false, false, false] rfl rfl (any_of HT_.out (by kernel_rfl)) (fun _ _ _ h => h) (Or.inl ⟨by rfl, ?_⟩) ?_ ?_
                      rotate_left
                      · intro w'
                        go_simp
                        with_reducible rfl
                      rotate_left
                      · simp only [Act.put, List.setIfInBounds_toArray, List.set_cons_zero, List.set_cons_succ, i64_w, i32_w]
                        rfl
                      refine pure_ (i := 14) (N := some 100) (v := ?_) (a' := ?_) #[true, true, true, true, true, true, true, true, true, true, true, true, true, true, true, false, false, false, false, false, false, false, false, false] rfl rfl (any_of HT_.out (by kernel_rfl)) (fun _ _ _ h => h) (Or.inl ⟨by rfl, ?_⟩) ?_ ?_
                      rotate_left
                      · intro w'
                        go_simp
                        with_reducible rfl
                      rotate_left
                      · simp only [Act.put, List.setIfInBounds_toArray, List.set_cons_zero, List.set_cons_succ, i64_w, i32_w]
                        rfl
                      refine pure_ (i := 15) (N := some 101) (v := ?_) (a' := ?_) #[true, true, true, true, true, true, true, true, true, true, true, true, true, true, true, true, false, false, false, false, false, false, false, false] rfl rfl (any_of HT_.out (by kernel_rfl)) (fun _ _ _ h => h) (Or.inl ⟨by rfl, ?_⟩) ?_ ?_
                      rotate_left
                      · intro w'
                        go_simp
                        with_reducible rfl
                      rotate_left
                      · simp only [Act.put, List.setIfInBounds_toArray, List.set_cons_zero, List.set_cons_succ, i64_w, i32_w]
                        rfl
                      refine pure_ (i := 17) (N := some 103) (v := ?_) (a' := ?_) #[true, true, true, true, true, true, true, true, true, true, true, true, true, true, true, true, false, true, false, false, false, false, false, false] rfl rfl (any_of HT_.out (by kernel_rfl)) (fun _ _ _ h => h) (Or.inl ⟨by rfl, ?_⟩) ?_ ?_
                      rotate_left
                      · intro w'
                        go_simp
                        with_reducible rfl
                      rotate_left
                      · simp only [Act.put, List.setIfInBounds_toArray, List.set_cons_zero, List.set_cons_succ, i64_w, i32_w]
                        rfl
                      refine pure_ (i := 19) (N := some 105) (v := ?_) (a' := ?_) #[true, true, true, true, true, true, true, true, true, true, true, true, true, true, true, true, false, true, false, true, false, false, false, false] rfl rfl (any_of HT_.out (by kernel_rfl)) (fun _ _ _ h => h) (Or.inl ⟨by rfl, ?_⟩) ?_ ?_
                      rotate_left
                      · intro w'
                        go_simp
                        with_reducible rfl
                      rotate_left
                      · simp only [Act.put, List.setIfInBounds_toArray, List.set_cons_zero, List.set_cons_succ, i64_w, i32_w]
                        rfl
                      refine take_ (i := 18) (N := some 104) (v := ?_) (a' := ?_) #[true, true, true, true, true, true, true, true, true, true, true, true, true, true, true, true, false, true, true, true, false, false, false, false] rfl rfl (take_ofW HT_.out HW_.out (by kernel_rfl)) (fun _ _ _ h => h) (Or.inl ⟨by rfl, ?_⟩) hHeld ?_ ?_
                      rotate_left
                      · rintro w' ⟨s0, s1, s2, s3, s4, s5, s6, s7, s8, s9, s10, s11, s12, s13⟩
                        go_simp
                        with_reducible rfl
                      rotate_left
                      · simp only [Act.put, List.setIfInBounds_toArray, List.set_cons_zero, List.set_cons_succ, i64_w, i32_w]
                        rfl
                      refine take_ (i := 20) (N := some 106) (v := ?_) (a' := ?_) #[true, true, true, true, true, true, true, true, true, true, true, true, true, true, true, true, false, true, true, true, true, false, false, false] rfl rfl (take_ofW HT_.out HW_.out (by kernel_rfl)) (fun _ _ _ h => h) (Or.inl ⟨by rfl, ?_⟩) hHeld ?_ ?_
                      rotate_left
                      · rintro w' ⟨s0, s1, s2, s3, s4, s5, s6, s7, s8, s9, s10, s11, s12, s13⟩
                        go_simp
                        with_reducible rfl
                      rotate_left
                      · simp only [Act.put, List.setIfInBounds_toArray, List.set_cons_zero, List.set_cons_succ, i64_w, i32_w]
                        rfl
                      refine pure_ (i := 21) (N := some 107) (v := ?_) (a' := ?_) #[true, true, true, true, true, true, true, true, true, true, true, true, true, true, true, true, false, true, true, true, true, true, false, false] rfl rfl (any_of HT_.out (by kernel_rfl)) (fun _ _ _ h => h) (Or.inl ⟨by rfl, ?_⟩) ?_ ?_
                      rotate_left
                      · intro w'
                        go_simp
                        with_reducible rfl
                      rotate_left
                      · simp only [Act.put, List.setIfInBounds_toArray, List.set_cons_zero, List.set_cons_succ, i64_w, i32_w]
                        rfl
                      refine one_ (i := 16) (N := some 102) #[true, true, true, true, true, true, true, true, true, true, true, true, true, true, true, true, true, true, true, true, true, true, false, false] rfl rfl (one_of HT_.out (by kernel_rfl)) (by decide) (fun K hK => ?_)
                      refine goes_ Try.func28 (by kernel_rfl) rfl #[.slice A1 l1.length c1] (by rfl) rfl rfl (by (try simp only [List.map_toArray, List.map_cons, List.map_nil]); first | done | rfl | (simp only [List.length_drop, List.length_take]; rfl)) ?_
                      with_reducible refine (packet_Canon.calls kj15 _ _ l1 t978 _ ?side1 ?side2 A66.out).mono ?_
                      (case side1 => repeat (first | exact (Kd.C_below HR1.out HB.out) | (with_reducible refine Kd.C_alloc ?_ _) | (with_reducible refine Kd.C_drewN ?_ _) | (with_reducible refine Kd.C_drew ?_)))
                      (case side2 => exact HC1.out)
                      rintro e w70 ⟨rfl, hb⟩
                      refine ⟨_, rfl, ?_⟩
                      replace HO960 := rbE HO960 hb
                      replace HO964 := rbE HO964 hb
                      replace HO967 := rbE HO967 hb
                      replace HO975 := rbE HO975 hb
                      replace BK920 := bbE BK920 hb
                      replace BK970 := bbE BK970 hb
                      replace HB := bstE HB hb
                      (try clear hb)
                      (try clear hb2)
                      (try clear hk)
                      (try clear hi)
                      refine hK.out _ _ ⟨(blk_cell BK970.out 0).trans rfl, (blk_cell BK970.out 1).trans rfl, (blk_cell BK970.out 2).trans rfl, (blk_cell BK970.out 3).trans rfl, (blk_cell BK970.out 4).trans rfl, (blk_cell BK970.out 5).trans rfl, (blk_cell BK970.out 6).trans rfl, (blk_cell BK970.out 7).trans rfl, (blk_cell BK970.out 8).trans rfl, (blk_cell BK970.out 9).trans rfl, (blk_cell BK970.out 10).trans rfl, (blk_cell BK970.out 11).trans rfl, (own_string (P := Try.prog) Try.underlying22 Try.underlying5 Try.underlying9 (Kd.own_of_R HO975.out)), (Kd.C_string (P := Try.prog) (A := A1) (c := c1) Try.underlying22 Try.underlying5 Try.underlying9 (Kd.C_below HR1.out HB.out))⟩ (fun hHeld => ?_)
                      clear hK K
                      refine norm_ (a' := ?_) ?_ ?_
                      rotate_left
                      · show Act.put _ (some 102) _ = _
                        simp only [Act.put, List.setIfInBounds_toArray, List.set_cons_zero, List.set_cons_succ, i64_w, i32_w]
                        rfl
                      refine pure_ (i := 22) (N := some 108) (v := ?_) (a' := ?_) #[true, true, true, true, true, true, true, true, true, true, true, true, true, true, true, true, true, true, true, true, true, true, true, false] rfl rfl (any_of HT_.out (by kernel_rfl)) (fun _ _ _ h => h) (Or.inl ⟨by rfl, ?_⟩) ?_ ?_
                      rotate_left
                      · intro w'
                        go_simp
                        with_reducible rfl
                      rotate_left
                      · simp only [Act.put, List.setIfInBounds_toArray, List.set_cons_zero, List.set_cons_succ, i64_w, i32_w]
                        rfl
                      refine pure_ (i := 23) (N := some 109) (v := ?_) (a' := ?_) #[true, true, true, true, true, true, true, true, true, true, true, true, true, true, true, true, true, true, true, true, true, true, true, true] rfl rfl (any_of HT_.out (by kernel_rfl)) (fun _ _ _ h => h) (Or.inl ⟨by rfl, ?_⟩) ?_ ?_
                      rotate_left
                      · intro w'
                        go_simp
                        with_reducible rfl
                      rotate_left
                      · simp only [Act.put, List.setIfInBounds_toArray, List.set_cons_zero, List.set_cons_succ, i64_w, i32_w]
                        rfl
                      refine done_ (done_of HT_.out (by kernel_rfl)) ?_
                      try go_wp2
                      go_meet
                      case rel => exact ⟨_, ((t978 != ((strOfNums t973).toList == (strOfNums l1).toList))), (by first | rfl | (simp; done) | (simp [*]; done)), H', ⟨by have := HJ4.out; have := HJ15.out; first | omega | exact Nat.le_refl _⟩, ⟨by (with_reducible repeat (first | apply Kd.R_alloc | apply Kd.R_drewN | apply Kd.R_drew)); first | exact HO975.out | exact Kd.R_mono HO975.out (fun _ hk => by simp only [true_and, and_assoc] at hk ⊢; exact hk)⟩, ⟨by (with_reducible repeat (first | apply Kd.R_alloc | apply Kd.R_drewN | apply Kd.R_drew)); first | exact HO960.out | exact Kd.R_mono HO960.out (fun _ hk => by simp only [true_and, and_assoc] at hk ⊢; exact hk)⟩, ⟨by (with_reducible repeat (first | apply Kd.R_alloc | apply Kd.R_drewN | apply Kd.R_drew)); exact Kd.R_mono HO964.out (fun _ hk => ⟨hk.2, hk.1⟩)⟩, ⟨by (with_reducible repeat (first | apply Kd.R_alloc | apply Kd.R_drewN | apply Kd.R_drew)); exact Kd.R_mono HO967.out (fun _ hk => ⟨hk.2, hk.1⟩)⟩, ⟨by (with_reducible repeat (first | refine blk_drewN ?_ _ | refine blk_drew ?_ | refine blk_alloc ?_ _)); exact BK920.out⟩, ⟨by (with_reducible repeat (first | refine blk_drewN ?_ _ | refine blk_drew ?_ | refine blk_alloc ?_ _)); exact BK970.out⟩, ⟨by repeat (first | (with_reducible first | exact HB.out | apply below_alloc | apply pw_below_drewN | apply below_drew1 | refine below_set ?_ GE920.out | refine below_set ?_ GE970.out) | exact HB.out)⟩⟩
                    rw [if_neg c65] at H
                    have c65b0 : ((t973.length : Int) == (l1.length : Int)) = false := beq_eq_false_iff_ne.mpr c65
                    have c65b1 : ((t973.length : Int) != (l1.length : Int)) = true := bne_iff_ne.mpr c65
                    have c65b2 : (t973.length == l1.length) = false := by first | simpa using c65 | (simp at c65 ⊢; omega)
                    have H' := Aside0.mk H
                    clear H
                    try go_wp2
                    replace HO960 := Aside0.mk (Kd.R_drew HO960.out)
                    replace HO964 := Aside0.mk (Kd.R_drew HO964.out)
                    replace HO967 := Aside0.mk (Kd.R_drew HO967.out)
                    replace HO975 := Aside0.mk (Kd.R_drew HO975.out)
                    replace BK920 := Aside0.mk (blk_drew BK920.out)
                    replace BK970 := Aside0.mk (blk_drew BK970.out)
                    replace HB := Aside0.mk (below_drew1 HB.out)
                    refine start_ (n := 24) (S := fun w' => w'.cell? ⟨gb970, 0, none⟩ = some (.bool t951) ∧ w'.cell? ⟨gb970, 1, none⟩ = some (.bool t952) ∧ w'.cell? ⟨gb970, 2, none⟩ = some (.bool t953) ∧ w'.cell? ⟨gb970, 3, none⟩ = some (.int .i64 t954) ∧ w'.cell? ⟨gb970, 4, none⟩ = some (.int .u16 t955) ∧ w'.cell? ⟨gb970, 5, none⟩ = some (.int .u32 t956) ∧ w'.cell? ⟨gb970, 6, none⟩ = some (.int .u32 t957) ∧ w'.cell? ⟨gb970, 7, none⟩ = some (.slice Ao56 t958.length co56) ∧ w'.cell? ⟨gb970, 8, none⟩ = some (.int .u16 t961) ∧ w'.cell? ⟨gb970, 9, none⟩ = some (.slice Ao57 t962.length co57) ∧ w'.cell? ⟨gb970, 10, none⟩ = some (.slice Ao58 t965.length co58) ∧ w'.cell? ⟨gb970, 11, none⟩ = some (.int .i64 t968)) (ds := []) #[false, false, false, false, false, false, false, false, false, false, false, false, false, false, false, false, false, false, false, false, false, false, false, false] (by kernel_rfl) rfl rfl ⟨(blk_cell BK970.out 0).trans rfl, (blk_cell BK970.out 1).trans rfl, (blk_cell BK970.out 2).trans rfl, (blk_cell BK970.out 3).trans rfl, (blk_cell BK970.out 4).trans rfl, (blk_cell BK970.out 5).trans rfl, (blk_cell BK970.out 6).trans rfl, (blk_cell BK970.out 7).trans rfl, (blk_cell BK970.out 8).trans rfl, (blk_cell BK970.out 9).trans rfl, (blk_cell BK970.out 10).trans rfl, (blk_cell BK970.out 11).trans rfl⟩ (fun hHeld => ?_); refine with_tabW crossbarlaw06_PacketBack.tab16 crossbarlaw06_PacketBack.bits16 (fun HT_ HW_ => ?_)
                    generalize w61.drew = w72 at HO960 HO964 HO967 HO975 BK920 BK970 HB hHeld ⊢
                    refine pure_ (i := 0) (N := some 86) (v := ?_) (a' := ?_) #[true, false, false, false, false, false, false, false, false, false, false, false, false, false, false, false, false, false, false, false, false, false, false, false] rfl rfl (any_of HT_.out (by kernel_rfl)) (fun _ _ _ h => h) (Or.inl ⟨by rfl, ?_⟩) ?_ ?_
                    rotate_left
                    · intro w'
                      go_simp
                      with_reducible rfl
                    rotate_left
                    · simp only [Act.put, List.setIfInBounds_toArray, List.set_cons_zero, List.set_cons_succ, i64_w, i32_w]
                      rfl
                    refine pure_ (i := 1) (N := some 87) (v := ?_) (a' := ?_) #[true, true, false, false, false, false, false, false, false, false, false, false, false, false, false, false, false, false, false, false, false, false, false, false] rfl rfl (any_of HT_.out (by kernel_rfl)) (fun _ _ _ h => h) (Or.inl ⟨by rfl, ?_⟩) ?_ ?_
                    rotate_left
                    · intro w'
                      go_simp
                      with_reducible rfl
                    rotate_left
                    · simp only [Act.put, List.setIfInBounds_toArray, List.set_cons_zero, List.set_cons_succ, i64_w, i32_w]
                      rfl
                    refine pure_ (i := 2) (N := some 88) (v := ?_) (a' := ?_) #[true, true, true, false, false, false, false, false, false, false, false, false, false, false, false, false, false, false, false, false, false, false, false, false] rfl rfl (any_of HT_.out (by kernel_rfl)) (fun _ _ _ h => h) (Or.inl ⟨by rfl, ?_⟩) ?_ ?_
                    rotate_left
                    · intro w'
                      go_simp
                      with_reducible rfl
                    rotate_left
                    · simp only [Act.put, List.setIfInBounds_toArray, List.set_cons_zero, List.set_cons_succ, i64_w, i32_w]
                      rfl
                    refine take_ (i := 3) (N := some 89) (v := ?_) (a' := ?_) #[true, true, true, true, false, false, false, false, false, false, false, false, false, false, false, false, false, false, false, false, false, false, false, false] rfl rfl (take_ofW HT_.out HW_.out (by kernel_rfl)) (fun _ _ _ h => h) (Or.inl ⟨by rfl, ?_⟩) hHeld ?_ ?_
                    rotate_left
                    · rintro w' ⟨s0, s1, s2, s3, s4, s5, s6, s7, s8, s9, s10, s11⟩
                      go_simp
                      with_reducible rfl
                    rotate_left
                    · simp only [Act.put, List.setIfInBounds_toArray, List.set_cons_zero, List.set_cons_succ, i64_w, i32_w]
                      rfl
                    refine one_ (i := 4) (N := some 90) #[true, true, true, true, true, false, false, false, false, false, false, false, false, false, false, false, false, false, false, false, false, false, false, false] rfl rfl (one_of HT_.out (by kernel_rfl)) (by decide) (fun K hK => ?_)
                    refine goes_ Try.func27 (by kernel_rfl) rfl #[.agg #[.bool t951, .bool t952, .bool t953, .int .i64 t954, .int .u16 t955, .int .u32 t956, .int .u32 t957, .slice Ao56 t958.length co56, .int .u16 t961, .slice Ao57 t962.length co57, .slice Ao58 t965.length co58, .int .i64 t968]] (by rfl) rfl rfl (by (try simp only [List.map_toArray, List.map_cons, List.map_nil]); first | done | rfl | (simp only [List.length_drop, List.length_take]; rfl)) ?_
                    with_reducible refine (packet_Right.calls kj15 t951 t952 t953 t954 t955 t956 t957 _ _ t958 t961 _ _ t962 _ _ t965 t968 true _ ?side1 ?side2 ?side3 ?side4 ?side5 ?side6 A63.out).mono ?_
                    (case side1 => repeat (first | exact (Kd.R_reads' HO960.out).2.2 | (with_reducible refine Kd.C_alloc ?_ _) | (with_reducible refine Kd.C_drewN ?_ _) | (with_reducible refine Kd.C_drew ?_)))
                    (case side2 => exact (Kd.R_reads' HO960.out).2.1)
                    (case side3 => repeat (first | exact (Kd.R_reads' HO964.out).2.2 | (with_reducible refine Kd.C_alloc ?_ _) | (with_reducible refine Kd.C_drewN ?_ _) | (with_reducible refine Kd.C_drew ?_)))
                    (case side4 => exact (Kd.R_reads' HO964.out).2.1)
                    (case side5 => repeat (first | exact (Kd.R_reads' HO967.out).2.2 | (with_reducible refine Kd.C_alloc ?_ _) | (with_reducible refine Kd.C_drewN ?_ _) | (with_reducible refine Kd.C_drew ?_)))
                    (case side6 => exact (Kd.R_reads' HO967.out).2.1)
                    rintro e w73 ⟨rfl, hb⟩
                    refine ⟨_, rfl, ?_⟩
                    replace HO960 := rbE HO960 hb
                    replace HO964 := rbE HO964 hb
                    replace HO967 := rbE HO967 hb
                    replace HO975 := rbE HO975 hb
                    replace BK920 := bbE BK920 hb
                    replace BK970 := bbE BK970 hb
                    replace HB := bstE HB hb
                    (try clear hb)
                    (try clear hb2)
                    (try clear hk)
                    (try clear hi)
                    obtain ⟨Ao74, co74, eo74⟩ := Kd.R_slice HO975.out
                    (first | subst eo74 | (injection eo74 with f1_ f2_ f3_; have f4_ := f1_.symm; have f5_ := f3_.symm; clear f1_ f2_ f3_; subst f4_; subst f5_))
                    refine hK.out _ _ ⟨(blk_cell BK970.out 0).trans rfl, (blk_cell BK970.out 1).trans rfl, (blk_cell BK970.out 2).trans rfl, (blk_cell BK970.out 3).trans rfl, (blk_cell BK970.out 4).trans rfl, (blk_cell BK970.out 5).trans rfl, (blk_cell BK970.out 6).trans rfl, (blk_cell BK970.out 7).trans rfl, (blk_cell BK970.out 8).trans rfl, (blk_cell BK970.out 9).trans rfl, (blk_cell BK970.out 10).trans rfl, (blk_cell BK970.out 11).trans rfl⟩ (fun hHeld => ?_)
                    clear hK K
                    refine norm_ (a' := ?_) ?_ ?_
                    rotate_left
                    · show Act.put _ (some 90) _ = _
                      simp only [Act.put, List.setIfInBounds_toArray, List.set_cons_zero, List.set_cons_succ, i64_w, i32_w]
                      rfl
                    refine pure_ (i := 5) (N := some 91) (v := ?_) (a' := ?_) #[true, true, true, true, true, true, false, false, false, false, false, false, false, false, false, false, false, false, false, false, false, false, false, false] rfl rfl (any_of HT_.out (by kernel_rfl)) (fun _ _ _ h => h) (Or.inl ⟨by rfl, ?_⟩) ?_ ?_
                    rotate_left
                    · intro w'
                      go_simp
                      with_reducible rfl
                    rotate_left
                    · simp only [Act.put, List.setIfInBounds_toArray, List.set_cons_zero, List.set_cons_succ, i64_w, i32_w]
                      rfl
                    refine pure_ (i := 6) (N := some 92) (v := ?_) (a' := ?_) #[true, true, true, true, true, true, true, false, false, false, false, false, false, false, false, false, false, false, false, false, false, false, false, false] rfl rfl (any_of HT_.out (by kernel_rfl)) (fun _ _ _ h => h) (Or.inl ⟨by rfl, ?_⟩) ?_ ?_
                    rotate_left
                    · intro w'
                      go_simp
                      with_reducible rfl
                    rotate_left
                    · simp only [Act.put, List.setIfInBounds_toArray, List.set_cons_zero, List.set_cons_succ, i64_w, i32_w]
                      rfl
                    refine pure_ (i := 7) (N := some 93) (v := ?_) (a' := ?_) #[true, true, true, true, true, true, true, true, false, false, false, false, false, false, false, false, false, false, false, false, false, false, false, false] rfl rfl (any_of HT_.out (by kernel_rfl)) (fun _ _ _ h => h) (Or.inl ⟨by rfl, ?_⟩) ?_ ?_
                    rotate_left
                    · intro w'
                      go_simp
                      with_reducible rfl
                    rotate_left
                    · simp only [Act.put, List.setIfInBounds_toArray, List.set_cons_zero, List.set_cons_succ, i64_w, i32_w]
                      rfl
                    refine pure_ (i := 8) (N := some 94) (v := ?_) (a' := ?_) #[true, true, true, true, true, true, true, true, true, false, false, false, false, false, false, false, false, false, false, false, false, false, false, false] rfl rfl (any_of HT_.out (by kernel_rfl)) (fun _ _ _ h => h) (Or.inl ⟨by rfl, ?_⟩) ?_ ?_
                    rotate_left
                    · intro w'
                      go_simp
                      with_reducible rfl
                    rotate_left
                    · simp only [Act.put, List.setIfInBounds_toArray, List.set_cons_zero, List.set_cons_succ, i64_w, i32_w]
                      rfl
                    refine pure_ (i := 9) (N := some 95) (v := ?_) (a' := ?_) #[true, true, true, true, true, true, true, true, true, true, false, false, false, false, false, false, false, false, false, false, false, false, false, false] rfl rfl (any_of HT_.out (by kernel_rfl)) (fun _ _ _ h => h) (Or.inl ⟨by rfl, ?_⟩) ?_ ?_
                    rotate_left
                    · intro w'
                      go_simp
                      with_reducible rfl
                    rotate_left
                    · simp only [Act.put, List.setIfInBounds_toArray, List.set_cons_zero, List.set_cons_succ, i64_w, i32_w]
                      rfl
                    refine pure_ (i := 10) (N := some 96) (v := ?_) (a' := ?_) #[true, true, true, true, true, true, true, true, true, true, true, false, false, false, false, false, false, false, false, false, false, false, false, false] rfl rfl (any_of HT_.out (by kernel_rfl)) (fun _ _ _ h => h) (Or.inl ⟨by rfl, ?_⟩) ?_ ?_
                    rotate_left
                    · intro w'
                      go_simp
                      with_reducible rfl
                    rotate_left
                    · simp only [Act.put, List.setIfInBounds_toArray, List.set_cons_zero, List.set_cons_succ, i64_w, i32_w]
                      rfl
                    refine pure_ (i := 11) (N := some 97) (v := ?_) (a' := ?_) #[true, true, true, true, true, true, true, true, true, true, true, true, false, false, false, false, false, false, false, false, false, false, false, false] rfl rfl (any_of HT_.out (by kernel_rfl)) (fun _ _ _ h => h) (Or.inl ⟨by rfl, ?_⟩) ?_ ?_
                    rotate_left
                    · intro w'
                      go_simp
                      with_reducible rfl
                    rotate_left
                    · simp only [Act.put, List.setIfInBounds_toArray, List.set_cons_zero, List.set_cons_succ, i64_w, i32_w]
                      rfl
                    refine pure_ (i := 12) (N := some 98) (v := ?_) (a' := ?_) #[true, true, true, true, true, true, true, true, true, true, true, true, true, false, false, false, false, false, false, false, false, false, false, false] rfl rfl (any_of HT_.out (by kernel_rfl)) (fun _ _ _ h => h) (Or.inl ⟨by rfl, ?_⟩) ?_ ?_
                    rotate_left
                    · intro w'
                      go_simp
                      with_reducible rfl
                    rotate_left
                    · simp only [Act.put, List.setIfInBounds_toArray, List.set_cons_zero, List.set_cons_succ, i64_w, i32_w]
                      rfl
                    refine pure_ (i := 13) (N := some 99) (v := ?_) (a' := ?_) #[true, true, true, true, true, true, true, true, true, true, true, true, true, true, false, false, false, false, false, false, false, false, false, false] rfl rfl (any_of HT_.out (by kernel_rfl)) (fun _ _ _ h => h) (Or.inl ⟨by rfl, ?_⟩) ?_ ?_
                    rotate_left
                    · intro w'
                      go_simp
                      with_reducible rfl
                    rotate_left
                    · simp only [Act.put, List.setIfInBounds_toArray, List.set_cons_zero, List.set_cons_succ, i64_w, i32_w]
                      rfl
                    refine pure_ (i := 14) (N := some 100) (v := ?_) (a' := ?_) #[true, true, true, true, true, true, true, true, true, true, true, true, true, true, true, false, false, false, false, false, false, false, false, false] rfl rfl (any_of HT_.out (by kernel_rfl)) (fun _ _ _ h => h) (Or.inl ⟨by rfl, ?_⟩) ?_ ?_
                    rotate_left
                    · intro w'
                      go_simp
                      with_reducible rfl
                    rotate_left
                    · simp only [Act.put, List.setIfInBounds_toArray, List.set_cons_zero, List.set_cons_succ, i64_w, i32_w]
                      rfl
                    refine pure_ (i := 15) (N := some 101) (v := undef) (a' := ?_) #[true, true, true, true, true, true, true, true, true, true, true, true, true, true, true, true, false, false, false, false, false, false, false, false] rfl rfl (any_of HT_.out (by kernel_rfl)) (fun _ _ _ h => h) (Or.inr ⟨by rfl, rfl⟩) ?_ ?_
                    rotate_left
                    · simp only [Act.put, List.setIfInBounds_toArray, List.set_cons_zero, List.set_cons_succ, i64_w, i32_w]
                      rfl
                    refine pure_ (i := 16) (N := some 102) (v := undef) (a' := ?_) #[true, true, true, true, true, true, true, true, true, true, true, true, true, true, true, true, true, false, false, false, false, false, false, false] rfl rfl (any_of HT_.out (by kernel_rfl)) (fun _ _ _ h => h) (Or.inr ⟨by rfl, rfl⟩) ?_ ?_
                    rotate_left
                    · simp only [Act.put, List.setIfInBounds_toArray, List.set_cons_zero, List.set_cons_succ, i64_w, i32_w]
                      rfl
                    refine pure_ (i := 17) (N := some 103) (v := undef) (a' := ?_) #[true, true, true, true, true, true, true, true, true, true, true, true, true, true, true, true, true, true, false, false, false, false, false, false] rfl rfl (any_of HT_.out (by kernel_rfl)) (fun _ _ _ h => h) (Or.inr ⟨by rfl, rfl⟩) ?_ ?_
                    rotate_left
                    · simp only [Act.put, List.setIfInBounds_toArray, List.set_cons_zero, List.set_cons_succ, i64_w, i32_w]
                      rfl
                    refine pure_ (i := 18) (N := some 104) (v := undef) (a' := ?_) #[true, true, true, true, true, true, true, true, true, true, true, true, true, true, true, true, true, true, true, false, false, false, false, false] rfl rfl (any_of HT_.out (by kernel_rfl)) (fun _ _ _ h => h) (Or.inr ⟨by rfl, rfl⟩) ?_ ?_
                    rotate_left
                    · simp only [Act.put, List.setIfInBounds_toArray, List.set_cons_zero, List.set_cons_succ, i64_w, i32_w]
                      rfl
                    refine pure_ (i := 19) (N := some 105) (v := undef) (a' := ?_) #[true, true, true, true, true, true, true, true, true, true, true, true, true, true, true, true, true, true, true, true, false, false, false, false] rfl rfl (any_of HT_.out (by kernel_rfl)) (fun _ _ _ h => h) (Or.inr ⟨by rfl, rfl⟩) ?_ ?_
                    rotate_left
                    · simp only [Act.put, List.setIfInBounds_toArray, List.set_cons_zero, List.set_cons_succ, i64_w, i32_w]
                      rfl
                    refine pure_ (i := 20) (N := some 106) (v := undef) (a' := ?_) #[true, true, true, true, true, true, true, true, true, true, true, true, true, true, true, true, true, true, true, true, true, false, false, false] rfl rfl (any_of HT_.out (by kernel_rfl)) (fun _ _ _ h => h) (Or.inr ⟨by rfl, rfl⟩) ?_ ?_
                    rotate_left
                    · simp only [Act.put, List.setIfInBounds_toArray, List.set_cons_zero, List.set_cons_succ, i64_w, i32_w]
                      rfl
                    refine pure_ (i := 21) (N := some 107) (v := undef) (a' := ?_) #[true, true, true, true, true, true, true, true, true, true, true, true, true, true, true, true, true, true, true, true, true, true, false, false] rfl rfl (any_of HT_.out (by kernel_rfl)) (fun _ _ _ h => h) (Or.inr ⟨by rfl, rfl⟩) ?_ ?_
                    rotate_left
                    · simp only [Act.put, List.setIfInBounds_toArray, List.set_cons_zero, List.set_cons_succ, i64_w, i32_w]
                      rfl
                    refine pure_ (i := 22) (N := some 108) (v := undef) (a' := ?_) #[true, true, true, true, true, true, true, true, true, true, true, true, true, true, true, true, true, true, true, true, true, true, true, false] rfl rfl (any_of HT_.out (by kernel_rfl)) (fun _ _ _ h => h) (Or.inr ⟨by rfl, rfl⟩) ?_ ?_
                    rotate_left
                    · simp only [Act.put, List.setIfInBounds_toArray, List.set_cons_zero, List.set_cons_succ, i64_w, i32_w]
                      rfl
                    refine pure_ (i := 23) (N := some 109) (v := ?_) (a' := ?_) #[true, true, true, true, true, true, true, true, true, true, true, true, true, true, true, true, true, true, true, true, true, true, true, true] rfl rfl (any_of HT_.out (by kernel_rfl)) (fun _ _ _ h => h) (Or.inl ⟨by rfl, ?_⟩) ?_ ?_
                    rotate_left
                    · intro w'
                      go_simp
                      with_reducible rfl
                    rotate_left
                    · simp only [Act.put, List.setIfInBounds_toArray, List.set_cons_zero, List.set_cons_succ, i64_w, i32_w]
                      rfl
                    refine done_ (done_of HT_.out (by kernel_rfl)) ?_
                    try go_wp2
                    go_meet
                    case rel => exact ⟨_, (true), (by first | rfl | (simp; done) | (simp [*]; done)), H', ⟨by have := HJ4.out; have := HJ15.out; first | omega | exact Nat.le_refl _⟩, ⟨by (with_reducible repeat (first | apply Kd.R_alloc | apply Kd.R_drewN | apply Kd.R_drew)); exact Kd.R_mono HO975.out (fun _ hk => ⟨hk.1.2, hk.2⟩)⟩, ⟨by (with_reducible repeat (first | apply Kd.R_alloc | apply Kd.R_drewN | apply Kd.R_drew)); first | exact HO960.out | exact Kd.R_mono HO960.out (fun _ hk => by simp only [true_and, and_assoc] at hk ⊢; exact hk)⟩, ⟨by (with_reducible repeat (first | apply Kd.R_alloc | apply Kd.R_drewN | apply Kd.R_drew)); exact Kd.R_mono HO964.out (fun _ hk => ⟨hk.2, hk.1⟩)⟩, ⟨by (with_reducible repeat (first | apply Kd.R_alloc | apply Kd.R_drewN | apply Kd.R_drew)); exact Kd.R_mono HO967.out (fun _ hk => ⟨hk.2, hk.1⟩)⟩, ⟨by (with_reducible repeat (first | refine blk_drewN ?_ _ | refine blk_drew ?_ | refine blk_alloc ?_ _)); exact BK920.out⟩, ⟨by (with_reducible repeat (first | refine blk_drewN ?_ _ | refine blk_drew ?_ | refine blk_alloc ?_ _)); exact BK970.out⟩, ⟨by repeat (first | (with_reducible first | exact HB.out | apply below_alloc | apply pw_below_drewN | apply below_drew1 | refine below_set ?_ GE920.out | refine below_set ?_ GE970.out) | exact HB.out)⟩⟩
                  replace c64 := Bool.eq_false_iff.mpr c64
                  subst c64
                  have H1 : (crossbarlaw06_PacketBack.j2 kj15 t973 true t951 t952 t953 t954 t955 t956 t957 t958 t961 t962 t965 t968) = some r := by rw [if_neg (show ¬ (false = true) by decide)] at H; exact H
                  clear H
                  have H := H1
                  clear H1
                  have H' := Aside0.mk H
                  clear H
                  try go_wp2
                  replace HO960 := Aside0.mk (Kd.R_drew HO960.out)
                  replace HO964 := Aside0.mk (Kd.R_drew HO964.out)
                  replace HO967 := Aside0.mk (Kd.R_drew HO967.out)
                  replace HO975 := Aside0.mk (Kd.R_drew HO975.out)
                  replace BK920 := Aside0.mk (blk_drew BK920.out)
                  replace BK970 := Aside0.mk (blk_drew BK970.out)
                  replace HB := Aside0.mk (below_drew1 HB.out)
                  refine start_ (n := 24) (S := fun w' => w'.cell? ⟨gb970, 0, none⟩ = some (.bool t951) ∧ w'.cell? ⟨gb970, 1, none⟩ = some (.bool t952) ∧ w'.cell? ⟨gb970, 2, none⟩ = some (.bool t953) ∧ w'.cell? ⟨gb970, 3, none⟩ = some (.int .i64 t954) ∧ w'.cell? ⟨gb970, 4, none⟩ = some (.int .u16 t955) ∧ w'.cell? ⟨gb970, 5, none⟩ = some (.int .u32 t956) ∧ w'.cell? ⟨gb970, 6, none⟩ = some (.int .u32 t957) ∧ w'.cell? ⟨gb970, 7, none⟩ = some (.slice Ao56 t958.length co56) ∧ w'.cell? ⟨gb970, 8, none⟩ = some (.int .u16 t961) ∧ w'.cell? ⟨gb970, 9, none⟩ = some (.slice Ao57 t962.length co57) ∧ w'.cell? ⟨gb970, 10, none⟩ = some (.slice Ao58 t965.length co58) ∧ w'.cell? ⟨gb970, 11, none⟩ = some (.int .i64 t968)) (ds := []) #[false, false, false, false, false, false, false, false, false, false, false, false, false, false, false, false, false, false, false, false, false, false, false, false] (by kernel_rfl) rfl rfl ⟨(blk_cell BK970.out 0).trans rfl, (blk_cell BK970.out 1).trans rfl, (blk_cell BK970.out 2).trans rfl, (blk_cell BK970.out 3).trans rfl, (blk_cell BK970.out 4).trans rfl, (blk_cell BK970.out 5).trans rfl, (blk_cell BK970.out 6).trans rfl, (blk_cell BK970.out 7).trans rfl, (blk_cell BK970.out 8).trans rfl, (blk_cell BK970.out 9).trans rfl, (blk_cell BK970.out 10).trans rfl, (blk_cell BK970.out 11).trans rfl⟩ (fun hHeld => ?_); refine with_tabW crossbarlaw06_PacketBack.tab16 crossbarlaw06_PacketBack.bits16 (fun HT_ HW_ => ?_)
                  generalize w61.drew = w75 at HO960 HO964 HO967 HO975 BK920 BK970 HB hHeld ⊢
                  refine pure_ (i := 0) (N := some 86) (v := ?_) (a' := ?_) #[true, false, false, false, false, false, false, false, false, false, false, false, false, false, false, false, false, false, false, false, false, false, false, false] rfl rfl (any_of HT_.out (by kernel_rfl)) (fun _ _ _ h => h) (Or.inl ⟨by rfl, ?_⟩) ?_ ?_
                  rotate_left
                  · intro w'
                    go_simp
                    with_reducible rfl
                  rotate_left
                  · simp only [Act.put, List.setIfInBounds_toArray, List.set_cons_zero, List.set_cons_succ, i64_w, i32_w]
                    rfl
                  refine pure_ (i := 1) (N := some 87) (v := ?_) (a' := ?_) #[true, true, false, false, false, false, false, false, false, false, false, false, false, false, false, false, false, false, false, false, false, false, false, false] rfl rfl (any_of HT_.out (by kernel_rfl)) (fun _ _ _ h => h) (Or.inl ⟨by rfl, ?_⟩) ?_ ?_
                  rotate_left
                  · intro w'
                    go_simp
                    with_reducible rfl
                  rotate_left
                  · simp only [Act.put, List.setIfInBounds_toArray, List.set_cons_zero, List.set_cons_succ, i64_w, i32_w]
                    rfl
                  refine pure_ (i := 2) (N := some 88) (v := ?_) (a' := ?_) #[true, true, true, false, false, false, false, false, false, false, false, false, false, false, false, false, false, false, false, false, false, false, false, false] rfl rfl (any_of HT_.out (by kernel_rfl)) (fun _ _ _ h => h) (Or.inl ⟨by rfl, ?_⟩) ?_ ?_
                  rotate_left
                  · intro w'
                    go_simp
                    with_reducible rfl
                  rotate_left
                  · simp only [Act.put, List.setIfInBounds_toArray, List.set_cons_zero, List.set_cons_succ, i64_w, i32_w]
                    rfl
                  refine take_ (i := 3) (N := some 89) (v := ?_) (a' := ?_) #[true, true, true, true, false, false, false, false, false, false, false, false, false, false, false, false, false, false, false, false, false, false, false, false] rfl rfl (take_ofW HT_.out HW_.out (by kernel_rfl)) (fun _ _ _ h => h) (Or.inl ⟨by rfl, ?_⟩) hHeld ?_ ?_
                  rotate_left
                  · rintro w' ⟨s0, s1, s2, s3, s4, s5, s6, s7, s8, s9, s10, s11⟩
                    go_simp
                    with_reducible rfl
                  rotate_left
                  · simp only [Act.put, List.setIfInBounds_toArray, List.set_cons_zero, List.set_cons_succ, i64_w, i32_w]
                    rfl
                  refine one_ (i := 4) (N := some 90) #[true, true, true, true, true, false, false, false, false, false, false, false, false, false, false, false, false, false, false, false, false, false, false, false] rfl rfl (one_of HT_.out (by kernel_rfl)) (by decide) (fun K hK => ?_)
                  refine goes_ Try.func27 (by kernel_rfl) rfl #[.agg #[.bool t951, .bool t952, .bool t953, .int .i64 t954, .int .u16 t955, .int .u32 t956, .int .u32 t957, .slice Ao56 t958.length co56, .int .u16 t961, .slice Ao57 t962.length co57, .slice Ao58 t965.length co58, .int .i64 t968]] (by rfl) rfl rfl (by (try simp only [List.map_toArray, List.map_cons, List.map_nil]); first | done | rfl | (simp only [List.length_drop, List.length_take]; rfl)) ?_
                  with_reducible refine (packet_Right.calls kj15 t951 t952 t953 t954 t955 t956 t957 _ _ t958 t961 _ _ t962 _ _ t965 t968 false _ ?side1 ?side2 ?side3 ?side4 ?side5 ?side6 A63.out).mono ?_
                  (case side1 => repeat (first | exact (Kd.R_reads' HO960.out).2.2 | (with_reducible refine Kd.C_alloc ?_ _) | (with_reducible refine Kd.C_drewN ?_ _) | (with_reducible refine Kd.C_drew ?_)))
                  (case side2 => exact (Kd.R_reads' HO960.out).2.1)
                  (case side3 => repeat (first | exact (Kd.R_reads' HO964.out).2.2 | (with_reducible refine Kd.C_alloc ?_ _) | (with_reducible refine Kd.C_drewN ?_ _) | (with_reducible refine Kd.C_drew ?_)))
                  (case side4 => exact (Kd.R_reads' HO964.out).2.1)
                  (case side5 => repeat (first | exact (Kd.R_reads' HO967.out).2.2 | (with_reducible refine Kd.C_alloc ?_ _) | (with_reducible refine Kd.C_drewN ?_ _) | (with_reducible refine Kd.C_drew ?_)))
                  (case side6 => exact (Kd.R_reads' HO967.out).2.1)
                  rintro e w76 ⟨rfl, hb⟩
                  refine ⟨_, rfl, ?_⟩
                  replace HO960 := rbE HO960 hb
                  replace HO964 := rbE HO964 hb
                  replace HO967 := rbE HO967 hb
                  replace HO975 := rbE HO975 hb
                  replace BK920 := bbE BK920 hb
                  replace BK970 := bbE BK970 hb
                  replace HB := bstE HB hb
                  (try clear hb)
                  (try clear hb2)
                  (try clear hk)
                  (try clear hi)
                  refine hK.out _ _ ⟨(blk_cell BK970.out 0).trans rfl, (blk_cell BK970.out 1).trans rfl, (blk_cell BK970.out 2).trans rfl, (blk_cell BK970.out 3).trans rfl, (blk_cell BK970.out 4).trans rfl, (blk_cell BK970.out 5).trans rfl, (blk_cell BK970.out 6).trans rfl, (blk_cell BK970.out 7).trans rfl, (blk_cell BK970.out 8).trans rfl, (blk_cell BK970.out 9).trans rfl, (blk_cell BK970.out 10).trans rfl, (blk_cell BK970.out 11).trans rfl⟩ (fun hHeld => ?_)
                  clear hK K
                  refine norm_ (a' := ?_) ?_ ?_
                  rotate_left
                  · show Act.put _ (some 90) _ = _
                    simp only [Act.put, List.setIfInBounds_toArray, List.set_cons_zero, List.set_cons_succ, i64_w, i32_w]
                    rfl
                  refine pure_ (i := 5) (N := some 91) (v := ?_) (a' := ?_) #[true, true, true, true, true, true, false, false, false, false, false, false, false, false, false, false, false, false, false, false, false, false, false, false] rfl rfl (any_of HT_.out (by kernel_rfl)) (fun _ _ _ h => h) (Or.inl ⟨by rfl, ?_⟩) ?_ ?_
                  rotate_left
                  · intro w'
                    go_simp
                    with_reducible rfl
                  rotate_left
                  · simp only [Act.put, List.setIfInBounds_toArray, List.set_cons_zero, List.set_cons_succ, i64_w, i32_w]
                    rfl
                  refine pure_ (i := 6) (N := some 92) (v := ?_) (a' := ?_) #[true, true, true, true, true, true, true, false, false, false, false, false, false, false, false, false, false, false, false, false, false, false, false, false] rfl rfl (any_of HT_.out (by kernel_rfl)) (fun _ _ _ h => h) (Or.inl ⟨by rfl, ?_⟩) ?_ ?_
                  rotate_left
                  · intro w'
                    go_simp
                    with_reducible rfl
                  rotate_left
                  · simp only [Act.put, List.setIfInBounds_toArray, List.set_cons_zero, List.set_cons_succ, i64_w, i32_w]
                    rfl
                  refine pure_ (i := 7) (N := some 93) (v := ?_) (a' := ?_) #[true, true, true, true, true, true, true, true, false, false, false, false, false, false, false, false, false, false, false, false, false, false, false, false] rfl rfl (any_of HT_.out (by kernel_rfl)) (fun _ _ _ h => h) (Or.inl ⟨by rfl, ?_⟩) ?_ ?_
                  rotate_left
                  · intro w'
                    go_simp
                    with_reducible rfl
                  rotate_left
                  · simp only [Act.put, List.setIfInBounds_toArray, List.set_cons_zero, List.set_cons_succ, i64_w, i32_w]
                    rfl
                  refine pure_ (i := 8) (N := some 94) (v := undef) (a' := ?_) #[true, true, true, true, true, true, true, true, true, false, false, false, false, false, false, false, false, false, false, false, false, false, false, false] rfl rfl (any_of HT_.out (by kernel_rfl)) (fun _ _ _ h => h) (Or.inr ⟨by rfl, rfl⟩) ?_ ?_
                  rotate_left
                  · simp only [Act.put, List.setIfInBounds_toArray, List.set_cons_zero, List.set_cons_succ, i64_w, i32_w]
                    rfl
                  refine pure_ (i := 9) (N := some 95) (v := undef) (a' := ?_) #[true, true, true, true, true, true, true, true, true, true, false, false, false, false, false, false, false, false, false, false, false, false, false, false] rfl rfl (any_of HT_.out (by kernel_rfl)) (fun _ _ _ h => h) (Or.inr ⟨by rfl, rfl⟩) ?_ ?_
                  rotate_left
                  · simp only [Act.put, List.setIfInBounds_toArray, List.set_cons_zero, List.set_cons_succ, i64_w, i32_w]
                    rfl
                  refine pure_ (i := 10) (N := some 96) (v := undef) (a' := ?_) #[true, true, true, true, true, true, true, true, true, true, true, false, false, false, false, false, false, false, false, false, false, false, false, false] rfl rfl (any_of HT_.out (by kernel_rfl)) (fun _ _ _ h => h) (Or.inr ⟨by rfl, rfl⟩) ?_ ?_
                  rotate_left
                  · simp only [Act.put, List.setIfInBounds_toArray, List.set_cons_zero, List.set_cons_succ, i64_w, i32_w]
                    rfl
                  refine pure_ (i := 11) (N := some 97) (v := undef) (a' := ?_) #[true, true, true, true, true, true, true, true, true, true, true, true, false, false, false, false, false, false, false, false, false, false, false, false] rfl rfl (any_of HT_.out (by kernel_rfl)) (fun _ _ _ h => h) (Or.inr ⟨by rfl, rfl⟩) ?_ ?_
                  rotate_left
                  · simp only [Act.put, List.setIfInBounds_toArray, List.set_cons_zero, List.set_cons_succ, i64_w, i32_w]
                    rfl
                  refine pure_ (i := 12) (N := some 98) (v := undef) (a' := ?_) #[true, true, true, true, true, true, true, true, true, true, true, true, true, false, false, false, false, false, false, false, false, false, false, false] rfl rfl (any_of HT_.out (by kernel_rfl)) (fun _ _ _ h => h) (Or.inr ⟨by rfl, rfl⟩) ?_ ?_
                  rotate_left
                  · simp only [Act.put, List.setIfInBounds_toArray, List.set_cons_zero, List.set_cons_succ, i64_w, i32_w]
                    rfl
                  refine pure_ (i := 13) (N := some 99) (v := ?_) (a' := ?_) #[true, true, true, true, true, true, true, true, true, true, true, true, true, true, false, false, false, false, false, false, false, false, false, false] rfl rfl (any_of HT_.out (by kernel_rfl)) (fun _ _ _ h => h) (Or.inl ⟨by rfl, ?_⟩) ?_ ?_
                  rotate_left
                  · intro w'
                    go_simp
                    with_reducible rfl
                  rotate_left
                  · simp only [Act.put, List.setIfInBounds_toArray, List.set_cons_zero, List.set_cons_succ, i64_w, i32_w]
                    rfl
                  refine pure_ (i := 14) (N := some 100) (v := ?_) (a' := ?_) #[true, true, true, true, true, true, true, true, true, true, true, true, true, true, true, false, false, false, false, false, false, false, false, false] rfl rfl (any_of HT_.out (by kernel_rfl)) (fun _ _ _ h => h) (Or.inl ⟨by rfl, ?_⟩) ?_ ?_
                  rotate_left
                  · intro w'
                    go_simp
                    with_reducible rfl
                  rotate_left
                  · simp only [Act.put, List.setIfInBounds_toArray, List.set_cons_zero, List.set_cons_succ, i64_w, i32_w]
                    rfl
                  refine pure_ (i := 15) (N := some 101) (v := undef) (a' := ?_) #[true, true, true, true, true, true, true, true, true, true, true, true, true, true, true, true, false, false, false, false, false, false, false, false] rfl rfl (any_of HT_.out (by kernel_rfl)) (fun _ _ _ h => h) (Or.inr ⟨by rfl, rfl⟩) ?_ ?_
                  rotate_left
                  · simp only [Act.put, List.setIfInBounds_toArray, List.set_cons_zero, List.set_cons_succ, i64_w, i32_w]
                    rfl
                  refine pure_ (i := 16) (N := some 102) (v := undef) (a' := ?_) #[true, true, true, true, true, true, true, true, true, true, true, true, true, true, true, true, true, false, false, false, false, false, false, false] rfl rfl (any_of HT_.out (by kernel_rfl)) (fun _ _ _ h => h) (Or.inr ⟨by rfl, rfl⟩) ?_ ?_
                  rotate_left
                  · simp only [Act.put, List.setIfInBounds_toArray, List.set_cons_zero, List.set_cons_succ, i64_w, i32_w]
                    rfl
                  refine pure_ (i := 17) (N := some 103) (v := undef) (a' := ?_) #[true, true, true, true, true, true, true, true, true, true, true, true, true, true, true, true, true, true, false, false, false, false, false, false] rfl rfl (any_of HT_.out (by kernel_rfl)) (fun _ _ _ h => h) (Or.inr ⟨by rfl, rfl⟩) ?_ ?_
                  rotate_left
                  · simp only [Act.put, List.setIfInBounds_toArray, List.set_cons_zero, List.set_cons_succ, i64_w, i32_w]
                    rfl
                  refine pure_ (i := 18) (N := some 104) (v := undef) (a' := ?_) #[true, true, true, true, true, true, true, true, true, true, true, true, true, true, true, true, true, true, true, false, false, false, false, false] rfl rfl (any_of HT_.out (by kernel_rfl)) (fun _ _ _ h => h) (Or.inr ⟨by rfl, rfl⟩) ?_ ?_
                  rotate_left
                  · simp only [Act.put, List.setIfInBounds_toArray, List.set_cons_zero, List.set_cons_succ, i64_w, i32_w]
                    rfl
                  refine pure_ (i := 19) (N := some 105) (v := undef) (a' := ?_) #[true, true, true, true, true, true, true, true, true, true, true, true, true, true, true, true, true, true, true, true, false, false, false, false] rfl rfl (any_of HT_.out (by kernel_rfl)) (fun _ _ _ h => h) (Or.inr ⟨by rfl, rfl⟩) ?_ ?_
                  rotate_left
                  · simp only [Act.put, List.setIfInBounds_toArray, List.set_cons_zero, List.set_cons_succ, i64_w, i32_w]
                    rfl
                  refine pure_ (i := 20) (N := some 106) (v := undef) (a' := ?_) #[true, true, true, true, true, true, true, true, true, true, true, true, true, true, true, true, true, true, true, true, true, false, false, false] rfl rfl (any_of HT_.out (by kernel_rfl)) (fun _ _ _ h => h) (Or.inr ⟨by rfl, rfl⟩) ?_ ?_
                  rotate_left
                  · simp only [Act.put, List.setIfInBounds_toArray, List.set_cons_zero, List.set_cons_succ, i64_w, i32_w]
                    rfl
                  refine pure_ (i := 21) (N := some 107) (v := undef) (a' := ?_) #[true, true, true, true, true, true, true, true, true, true, true, true, true, true, true, true, true, true, true, true, true, true, false, false] rfl rfl (any_of HT_.out (by kernel_rfl)) (fun _ _ _ h => h) (Or.inr ⟨by rfl, rfl⟩) ?_ ?_
                  rotate_left
                  · simp only [Act.put, List.setIfInBounds_toArray, List.set_cons_zero, List.set_cons_succ, i64_w, i32_w]
                    rfl
                  refine pure_ (i := 22) (N := some 108) (v := undef) (a' := ?_) #[true, true, true, true, true, true, true, true, true, true, true, true, true, true, true, true, true, true, true, true, true, true, true, false] rfl rfl (any_of HT_.out (by kernel_rfl)) (fun _ _ _ h => h) (Or.inr ⟨by rfl, rfl⟩) ?_ ?_
                  rotate_left
                  · simp only [Act.put, List.setIfInBounds_toArray, List.set_cons_zero, List.set_cons_succ, i64_w, i32_w]
                    rfl
                  refine pure_ (i := 23) (N := some 109) (v := ?_) (a' := ?_) #[true, true, true, true, true, true, true, true, true, true, true, true, true, true, true, true, true, true, true, true, true, true, true, true] rfl rfl (any_of HT_.out (by kernel_rfl)) (fun _ _ _ h => h) (Or.inl ⟨by rfl, ?_⟩) ?_ ?_
                  rotate_left
                  · intro w'
                    go_simp
                    with_reducible rfl
                  rotate_left
                  · simp only [Act.put, List.setIfInBounds_toArray, List.set_cons_zero, List.set_cons_succ, i64_w, i32_w]
                    rfl
                  refine done_ (done_of HT_.out (by kernel_rfl)) ?_
                  try go_wp2
                  go_meet
                  case rel => exact ⟨_, (true), (by first | rfl | (simp; done) | (simp [*]; done)), H', ⟨by have := HJ4.out; have := HJ15.out; first | omega | exact Nat.le_refl _⟩, ⟨by (with_reducible repeat (first | apply Kd.R_alloc | apply Kd.R_drewN | apply Kd.R_drew)); exact Kd.R_mono HO975.out (fun _ hk => ⟨hk.1.2, hk.2⟩)⟩, ⟨by (with_reducible repeat (first | apply Kd.R_alloc | apply Kd.R_drewN | apply Kd.R_drew)); first | exact HO960.out | exact Kd.R_mono HO960.out (fun _ hk => by simp only [true_and, and_assoc] at hk ⊢; exact hk)⟩, ⟨by (with_reducible repeat (first | apply Kd.R_alloc | apply Kd.R_drewN | apply Kd.R_drew)); exact Kd.R_mono HO964.out (fun _ hk => ⟨hk.2, hk.1⟩)⟩, ⟨by (with_reducible repeat (first | apply Kd.R_alloc | apply Kd.R_drewN | apply Kd.R_drew)); exact Kd.R_mono HO967.out (fun _ hk => ⟨hk.2, hk.1⟩)⟩, ⟨by (with_reducible repeat (first | refine blk_drewN ?_ _ | refine blk_drew ?_ | refine blk_alloc ?_ _)); exact BK920.out⟩, ⟨by (with_reducible repeat (first | refine blk_drewN ?_ _ | refine blk_drew ?_ | refine blk_alloc ?_ _)); exact BK970.out⟩, ⟨by repeat (first | (with_reducible first | exact HB.out | apply below_alloc | apply pw_below_drewN | apply below_drew1 | refine below_set ?_ GE920.out | refine below_set ?_ GE970.out) | exact HB.out)⟩⟩
                rw [if_neg c62] at H
                have c62b0 : (t976 == 0) = false := beq_eq_false_iff_ne.mpr c62
                have c62b1 : (t976 != 0) = true := bne_iff_ne.mpr c62
                (first | rw [c62b0] | (simp only [i64_w, i32_w]; rw [c62b0]) | rw [c62b1] | skip)
                have H' := Aside0.mk H
                clear H
                try go_wp2
                replace HO960 := Aside0.mk (Kd.R_drew HO960.out)
                replace HO964 := Aside0.mk (Kd.R_drew HO964.out)
                replace HO967 := Aside0.mk (Kd.R_drew HO967.out)
                replace HO975 := Aside0.mk (Kd.R_drew HO975.out)
                replace BK920 := Aside0.mk (blk_drew BK920.out)
                replace BK970 := Aside0.mk (blk_drew BK970.out)
                replace HB := Aside0.mk (below_drew1 HB.out)
                refine start_ (n := 24) (S := fun w' => True) (ds := []) #[false, false, false, false, false, false, false, false, false, false, false, false, false, false, false, false, false, false, false, false, false, false, false, false] (by kernel_rfl) rfl rfl trivial (fun hHeld => ?_); refine with_tabW crossbarlaw06_PacketBack.tab16 crossbarlaw06_PacketBack.bits16 (fun HT_ HW_ => ?_)
                generalize w61.drew = w77 at HO960 HO964 HO967 HO975 BK920 BK970 HB hHeld ⊢
                refine pure_ (i := 0) (N := some 86) (v := ?_) (a' := ?_) #[true, false, false, false, false, false, false, false, false, false, false, false, false, false, false, false, false, false, false, false, false, false, false, false] rfl rfl (any_of HT_.out (by kernel_rfl)) (fun _ _ _ h => h) (Or.inl ⟨by rfl, ?_⟩) ?_ ?_
                rotate_left
                · intro w'
                  go_simp
                  with_reducible rfl
                rotate_left
                · simp only [Act.put, List.setIfInBounds_toArray, List.set_cons_zero, List.set_cons_succ, i64_w, i32_w]
                  rfl
                refine pure_ (i := 1) (N := some 87) (v := ?_) (a' := ?_) #[true, true, false, false, false, false, false, false, false, false, false, false, false, false, false, false, false, false, false, false, false, false, false, false] rfl rfl (any_of HT_.out (by kernel_rfl)) (fun _ _ _ h => h) (Or.inl ⟨by rfl, ?_⟩) ?_ ?_
                rotate_left
                · intro w'
                  go_simp
                  with_reducible rfl
                rotate_left
                · simp only [Act.put, List.setIfInBounds_toArray, List.set_cons_zero, List.set_cons_succ, i64_w, i32_w]
                  rfl
                refine pure_ (i := 2) (N := some 88) (v := ?_) (a' := ?_) #[true, true, true, false, false, false, false, false, false, false, false, false, false, false, false, false, false, false, false, false, false, false, false, false] rfl rfl (any_of HT_.out (by kernel_rfl)) (fun _ _ _ h => h) (Or.inl ⟨by rfl, ?_⟩) ?_ ?_
                rotate_left
                · intro w'
                  go_simp
                  with_reducible rfl
                rotate_left
                · simp only [Act.put, List.setIfInBounds_toArray, List.set_cons_zero, List.set_cons_succ, i64_w, i32_w]
                  rfl
                refine pure_ (i := 3) (N := some 89) (v := undef) (a' := ?_) #[true, true, true, true, false, false, false, false, false, false, false, false, false, false, false, false, false, false, false, false, false, false, false, false] rfl rfl (any_of HT_.out (by kernel_rfl)) (fun _ _ _ h => h) (Or.inr ⟨by rfl, rfl⟩) ?_ ?_
                rotate_left
                · simp only [Act.put, List.setIfInBounds_toArray, List.set_cons_zero, List.set_cons_succ, i64_w, i32_w]
                  rfl
                refine pure_ (i := 4) (N := some 90) (v := undef) (a' := ?_) #[true, true, true, true, true, false, false, false, false, false, false, false, false, false, false, false, false, false, false, false, false, false, false, false] rfl rfl (any_of HT_.out (by kernel_rfl)) (fun _ _ _ h => h) (Or.inr ⟨by rfl, rfl⟩) ?_ ?_
                rotate_left
                · simp only [Act.put, List.setIfInBounds_toArray, List.set_cons_zero, List.set_cons_succ, i64_w, i32_w]
                  rfl
                refine pure_ (i := 5) (N := some 91) (v := undef) (a' := ?_) #[true, true, true, true, true, true, false, false, false, false, false, false, false, false, false, false, false, false, false, false, false, false, false, false] rfl rfl (any_of HT_.out (by kernel_rfl)) (fun _ _ _ h => h) (Or.inr ⟨by rfl, rfl⟩) ?_ ?_
                rotate_left
                · simp only [Act.put, List.setIfInBounds_toArray, List.set_cons_zero, List.set_cons_succ, i64_w, i32_w]
                  rfl
                refine pure_ (i := 6) (N := some 92) (v := ?_) (a' := ?_) #[true, true, true, true, true, true, true, false, false, false, false, false, false, false, false, false, false, false, false, false, false, false, false, false] rfl rfl (any_of HT_.out (by kernel_rfl)) (fun _ _ _ h => h) (Or.inl ⟨by rfl, ?_⟩) ?_ ?_
                rotate_left
                · intro w'
                  go_simp
                  with_reducible rfl
                rotate_left
                · simp only [Act.put, List.setIfInBounds_toArray, List.set_cons_zero, List.set_cons_succ, i64_w, i32_w]
                  rfl
                refine pure_ (i := 7) (N := some 93) (v := ?_) (a' := ?_) #[true, true, true, true, true, true, true, true, false, false, false, false, false, false, false, false, false, false, false, false, false, false, false, false] rfl rfl (any_of HT_.out (by kernel_rfl)) (fun _ _ _ h => h) (Or.inl ⟨by rfl, ?_⟩) ?_ ?_
                rotate_left
                · intro w'
                  go_simp
                  with_reducible rfl
                rotate_left
                · simp only [Act.put, List.setIfInBounds_toArray, List.set_cons_zero, List.set_cons_succ, i64_w, i32_w]
                  rfl
                refine pure_ (i := 8) (N := some 94) (v := undef) (a' := ?_) #[true, true, true, true, true, true, true, true, true, false, false, false, false, false, false, false, false, false, false, false, false, false, false, false] rfl rfl (any_of HT_.out (by kernel_rfl)) (fun _ _ _ h => h) (Or.inr ⟨by rfl, rfl⟩) ?_ ?_
                rotate_left
                · simp only [Act.put, List.setIfInBounds_toArray, List.set_cons_zero, List.set_cons_succ, i64_w, i32_w]
                  rfl
                refine pure_ (i := 9) (N := some 95) (v := undef) (a' := ?_) #[true, true, true, true, true, true, true, true, true, true, false, false, false, false, false, false, false, false, false, false, false, false, false, false] rfl rfl (any_of HT_.out (by kernel_rfl)) (fun _ _ _ h => h) (Or.inr ⟨by rfl, rfl⟩) ?_ ?_
                rotate_left
                · simp only [Act.put, List.setIfInBounds_toArray, List.set_cons_zero, List.set_cons_succ, i64_w, i32_w]
                  rfl
                refine pure_ (i := 10) (N := some 96) (v := undef) (a' := ?_) #[true, true, true, true, true, true, true, true, true, true, true, false, false, false, false, false, false, false, false, false, false, false, false, false] rfl rfl (any_of HT_.out (by kernel_rfl)) (fun _ _ _ h => h) (Or.inr ⟨by rfl, rfl⟩) ?_ ?_
                rotate_left
                · simp only [Act.put, List.setIfInBounds_toArray, List.set_cons_zero, List.set_cons_succ, i64_w, i32_w]
                  rfl
                refine pure_ (i := 11) (N := some 97) (v := undef) (a' := ?_) #[true, true, true, true, true, true, true, true, true, true, true, true, false, false, false, false, false, false, false, false, false, false, false, false] rfl rfl (any_of HT_.out (by kernel_rfl)) (fun _ _ _ h => h) (Or.inr ⟨by rfl, rfl⟩) ?_ ?_
                rotate_left
                · simp only [Act.put, List.setIfInBounds_toArray, List.set_cons_zero, List.set_cons_succ, i64_w, i32_w]
                  rfl
                refine pure_ (i := 12) (N := some 98) (v := undef) (a' := ?_) #[true, true, true, true, true, true, true, true, true, true, true, true, true, false, false, false, false, false, false, false, false, false, false, false] rfl rfl (any_of HT_.out (by kernel_rfl)) (fun _ _ _ h => h) (Or.inr ⟨by rfl, rfl⟩) ?_ ?_
                rotate_left
                · simp only [Act.put, List.setIfInBounds_toArray, List.set_cons_zero, List.set_cons_succ, i64_w, i32_w]
                  rfl
                refine pure_ (i := 13) (N := some 99) (v := ?_) (a' := ?_) #[true, true, true, true, true, true, true, true, true, true, true, true, true, true, false, false, false, false, false, false, false, false, false, false] rfl rfl (any_of HT_.out (by kernel_rfl)) (fun _ _ _ h => h) (Or.inl ⟨by rfl, ?_⟩) ?_ ?_
                rotate_left
                · intro w'
                  go_simp
                  with_reducible rfl
                rotate_left
                · simp only [Act.put, List.setIfInBounds_toArray, List.set_cons_zero, List.set_cons_succ, i64_w, i32_w]
                  rfl
                refine pure_ (i := 14) (N := some 100) (v := ?_) (a' := ?_) #[true, true, true, true, true, true, true, true, true, true, true, true, true, true, true, false, false, false, false, false, false, false, false, false] rfl rfl (any_of HT_.out (by kernel_rfl)) (fun _ _ _ h => h) (Or.inl ⟨by rfl, ?_⟩) ?_ ?_
                rotate_left
                · intro w'
                  go_simp
                  with_reducible rfl
                rotate_left
                · simp only [Act.put, List.setIfInBounds_toArray, List.set_cons_zero, List.set_cons_succ, i64_w, i32_w]
                  rfl
                refine pure_ (i := 15) (N := some 101) (v := undef) (a' := ?_) #[true, true, true, true, true, true, true, true, true, true, true, true, true, true, true, true, false, false, false, false, false, false, false, false] rfl rfl (any_of HT_.out (by kernel_rfl)) (fun _ _ _ h => h) (Or.inr ⟨by rfl, rfl⟩) ?_ ?_
                rotate_left
                · simp only [Act.put, List.setIfInBounds_toArray, List.set_cons_zero, List.set_cons_succ, i64_w, i32_w]
                  rfl
                refine pure_ (i := 16) (N := some 102) (v := undef) (a' := ?_) #[true, true, true, true, true, true, true, true, true, true, true, true, true, true, true, true, true, false, false, false, false, false, false, false] rfl rfl (any_of HT_.out (by kernel_rfl)) (fun _ _ _ h => h) (Or.inr ⟨by rfl, rfl⟩) ?_ ?_
                rotate_left
                · simp only [Act.put, List.setIfInBounds_toArray, List.set_cons_zero, List.set_cons_succ, i64_w, i32_w]
                  rfl
                refine pure_ (i := 17) (N := some 103) (v := undef) (a' := ?_) #[true, true, true, true, true, true, true, true, true, true, true, true, true, true, true, true, true, true, false, false, false, false, false, false] rfl rfl (any_of HT_.out (by kernel_rfl)) (fun _ _ _ h => h) (Or.inr ⟨by rfl, rfl⟩) ?_ ?_
                rotate_left
                · simp only [Act.put, List.setIfInBounds_toArray, List.set_cons_zero, List.set_cons_succ, i64_w, i32_w]
                  rfl
                refine pure_ (i := 18) (N := some 104) (v := undef) (a' := ?_) #[true, true, true, true, true, true, true, true, true, true, true, true, true, true, true, true, true, true, true, false, false, false, false, false] rfl rfl (any_of HT_.out (by kernel_rfl)) (fun _ _ _ h => h) (Or.inr ⟨by rfl, rfl⟩) ?_ ?_
                rotate_left
                · simp only [Act.put, List.setIfInBounds_toArray, List.set_cons_zero, List.set_cons_succ, i64_w, i32_w]
                  rfl
                refine pure_ (i := 19) (N := some 105) (v := undef) (a' := ?_) #[true, true, true, true, true, true, true, true, true, true, true, true, true, true, true, true, true, true, true, true, false, false, false, false] rfl rfl (any_of HT_.out (by kernel_rfl)) (fun _ _ _ h => h) (Or.inr ⟨by rfl, rfl⟩) ?_ ?_
                rotate_left
                · simp only [Act.put, List.setIfInBounds_toArray, List.set_cons_zero, List.set_cons_succ, i64_w, i32_w]
                  rfl
                refine pure_ (i := 20) (N := some 106) (v := undef) (a' := ?_) #[true, true, true, true, true, true, true, true, true, true, true, true, true, true, true, true, true, true, true, true, true, false, false, false] rfl rfl (any_of HT_.out (by kernel_rfl)) (fun _ _ _ h => h) (Or.inr ⟨by rfl, rfl⟩) ?_ ?_
                rotate_left
                · simp only [Act.put, List.setIfInBounds_toArray, List.set_cons_zero, List.set_cons_succ, i64_w, i32_w]
                  rfl
                refine pure_ (i := 21) (N := some 107) (v := undef) (a' := ?_) #[true, true, true, true, true, true, true, true, true, true, true, true, true, true, true, true, true, true, true, true, true, true, false, false] rfl rfl (any_of HT_.out (by kernel_rfl)) (fun _ _ _ h => h) (Or.inr ⟨by rfl, rfl⟩) ?_ ?_
                rotate_left
                · simp only [Act.put, List.setIfInBounds_toArray, List.set_cons_zero, List.set_cons_succ, i64_w, i32_w]
                  rfl
                refine pure_ (i := 22) (N := some 108) (v := undef) (a' := ?_) #[true, true, true, true, true, true, true, true, true, true, true, true, true, true, true, true, true, true, true, true, true, true, true, false] rfl rfl (any_of HT_.out (by kernel_rfl)) (fun _ _ _ h => h) (Or.inr ⟨by rfl, rfl⟩) ?_ ?_
                rotate_left
                · simp only [Act.put, List.setIfInBounds_toArray, List.set_cons_zero, List.set_cons_succ, i64_w, i32_w]
                  rfl
                refine pure_ (i := 23) (N := some 109) (v := ?_) (a' := ?_) #[true, true, true, true, true, true, true, true, true, true, true, true, true, true, true, true, true, true, true, true, true, true, true, true] rfl rfl (any_of HT_.out (by kernel_rfl)) (fun _ _ _ h => h) (Or.inl ⟨by rfl, ?_⟩) ?_ ?_
                rotate_left
                · intro w'
                  go_simp
                  with_reducible rfl
                rotate_left
                · simp only [Act.put, List.setIfInBounds_toArray, List.set_cons_zero, List.set_cons_succ, i64_w, i32_w]
                  rfl
                refine done_ (done_of HT_.out (by kernel_rfl)) ?_
                try go_wp2
                go_meet
                case rel => exact ⟨_, (true), (by first | rfl | (simp; done) | (simp [*]; done)), H', ⟨by have := HJ4.out; have := HJ15.out; first | omega | exact Nat.le_refl _⟩, ⟨by (with_reducible repeat (first | apply Kd.R_alloc | apply Kd.R_drewN | apply Kd.R_drew)); exact Kd.R_mono HO975.out (fun _ hk => ⟨hk.1.2, hk.2⟩)⟩, ⟨by (with_reducible repeat (first | apply Kd.R_alloc | apply Kd.R_drewN | apply Kd.R_drew)); first | exact HO960.out | exact Kd.R_mono HO960.out (fun _ hk => by simp only [true_and, and_assoc] at hk ⊢; exact hk)⟩, ⟨by (with_reducible repeat (first | apply Kd.R_alloc | apply Kd.R_drewN | apply Kd.R_drew)); exact Kd.R_mono HO964.out (fun _ hk => ⟨hk.2, hk.1⟩)⟩, ⟨by (with_reducible repeat (first | apply Kd.R_alloc | apply Kd.R_drewN | apply Kd.R_drew)); exact Kd.R_mono HO967.out (fun _ hk => ⟨hk.2, hk.1⟩)⟩, ⟨by (with_reducible repeat (first | refine blk_drewN ?_ _ | refine blk_drew ?_ | refine blk_alloc ?_ _)); exact BK920.out⟩, ⟨by (with_reducible repeat (first | refine blk_drewN ?_ _ | refine blk_drew ?_ | refine blk_alloc ?_ _)); exact BK970.out⟩, ⟨by repeat (first | (with_reducible first | exact HB.out | apply below_alloc | apply pw_below_drewN | apply below_drew1 | refine below_set ?_ GE920.out | refine below_set ?_ GE970.out) | exact HB.out)⟩⟩
              case rest =>
                clear HC51
                try clear c2
                try clear p2
                try clear c6
                try clear c27
                try clear c62
                try clear c62b0
                try clear c62b1
                try clear c64
                obtain ⟨kq, x109_50, rfl, HA, HJ50, HO_11, HO_971007, HO_971009, HO_971010, BK920, BK970, HB⟩ := hcut
                cases kq with
                | zero => exact absurd HA.out (by simp [crossbarlaw06_PacketBack.j2])
                | succ kj50 =>
                  have H := HA.out
                  clear HA
                  simp only [crossbarlaw06_PacketBack.j2] at H
                  by_cases c78 : x109_50 = true
                  · subst c78
                    have H1 : (none) = some r := by rw [if_pos rfl] at H; exact H
                    clear H
                    have H := H1
                    clear H1
                    exact absurd H (by simp)
                  replace c78 := Bool.eq_false_iff.mpr c78
                  subst c78
                  have H1 : ((packet_Read.f kj50 t973).bind fun bt979 => (if bt979.2.2.2.2.2.2.2.2.2.2.2.2 = 0 then ((crossbarref06_Same.f kj50 t951 t952 t953 t954 t955 t956 t957 t958 t961 t962 t965 t968 bt979.1 bt979.2.1 bt979.2.2.1 bt979.2.2.2.1 bt979.2.2.2.2.1 bt979.2.2.2.2.2.1 bt979.2.2.2.2.2.2.1 bt979.2.2.2.2.2.2.2.1 bt979.2.2.2.2.2.2.2.2.1 bt979.2.2.2.2.2.2.2.2.2.1 bt979.2.2.2.2.2.2.2.2.2.2.1 bt979.2.2.2.2.2.2.2.2.2.2.2.1).bind fun t999 => (some t999)) else (none))) = some r := by rw [if_neg (show ¬ (false = true) by decide)] at H; exact H
                  clear H
                  have H := H1
                  clear H1
                  replace H := Option.bind_eq_some_iff.mp H
                  obtain ⟨⟨t979, t980, t981, t982, t983, t984, t985, t986, t989, t990, t993, t996, t997⟩, A790, H⟩ := H
                  replace H : (if t997 = 0 then ((crossbarref06_Same.f kj50 t951 t952 t953 t954 t955 t956 t957 t958 t961 t962 t965 t968 t979 t980 t981 t982 t983 t984 t985 t986 t989 t990 t993 t996).bind fun t999 => (some t999)) else (none)) = some r := H
                  have A79 := Aside0.mk A790
                  clear A790
                  by_cases c80 : t997 = 0
                  · rw [if_pos c80] at H
                    have c80b0 : (t997 == 0) = true := beq_iff_eq.mpr c80
                    have c80b1 : (t997 != 0) = false := bne_eq_false_iff_eq.mpr c80
                    clear c80
                    replace H := Option.bind_eq_some_iff.mp H
                    obtain ⟨t999, A810, H⟩ := H
                    replace H : (some t999) = some r := H
                    have A81 := Aside0.mk A810
                    clear A810
                    obtain rfl := Option.some.inj H
                    obtain ⟨Ao82, co82, eo82⟩ := Kd.R_slice HO_11.out
                    subst eo82
                    go_wp2_with (first | ((with_reducible refine gate_callee (f := 17) rfl ?_); refine goesL_ (some 112) rfl rfl Try.func17 (by kernel_rfl) rfl #[.slice Ao82 t973.length co82] rfl (by (try simp only [List.map_toArray, List.map_cons, List.map_nil]); first | done | rfl | (simp only [List.length_drop, List.length_take]; rfl)) ?_; (with_reducible refine (packet_Read.calls kj50 _ _ t973 t979 t980 t981 t982 t983 t984 t985 t986 t989 t990 t993 t996 t997 _ ?side1 ?side2 A79.out).mono ?_); (case side1 => repeat (first | exact (Kd.R_reads' HO_11.out).2.2 | (with_reducible refine Kd.C_alloc ?_ _) | (with_reducible refine Kd.C_drewN ?_ _) | (with_reducible refine Kd.C_drew ?_))); (case side2 => exact (Kd.R_reads' HO_11.out).2.1); rintro e w83 ⟨v987, v991, v994, rfl, ho0, ho1, ho2, hb⟩; refine ⟨_, rfl, ?_⟩; have n0_ := Aside0.mk (Kd.R_mono (Kd.R_told (Kd.R_told (Kd.R_old (pR HO_11) hb) (Kd.R_base ho1)) (Kd.R_base ho2)) (fun _ h_ => h_.1)); have n1_ := Aside0.mk (Kd.R_elder' (pR HO_971007) (Kd.R_base ho0) hb); have n2_ := Aside0.mk (Kd.R_mono (Kd.R_told (Kd.R_told (Kd.R_old (pR HO_971009) hb) (Kd.R_base ho1)) (Kd.R_base ho2)) (fun _ h_ => h_.1)); have n3_ := Aside0.mk (Kd.R_mono (Kd.R_told (Kd.R_told (Kd.R_old (pR HO_971010) hb) (Kd.R_base ho1)) (Kd.R_base ho2)) (fun _ h_ => h_.1)); have HO988 := Aside0.mk (Kd.R_lower (Kd.R_new' ho0 (Kd.R_lt (pR HO_971007))) (below_size (pB HB))); have HO992 := Aside0.mk (Kd.R_lower (Kd.R_new' (Kd.R_new' (Kd.R_new' ho1 (Kd.R_lt (pR HO_11))) (Kd.R_lt (pR HO_971009))) (Kd.R_lt (pR HO_971010))) (below_size (pB HB))); have HO995 := Aside0.mk (Kd.R_lower (Kd.R_new' (Kd.R_new' (Kd.R_new' ho2 (Kd.R_lt (pR HO_11))) (Kd.R_lt (pR HO_971009))) (Kd.R_lt (pR HO_971010))) (below_size (pB HB))); replace BK920 := bbE BK920 hb; replace BK970 := bbE BK970 hb; replace HB := bstE HB hb; clear HO_11; clear HO_971007; clear HO_971009; clear HO_971010; have HO_11 := n0_; have HO_971007 := n1_; have HO_971009 := n2_; have HO_971010 := n3_; clear n0_ n1_ n2_ n3_; (try clear hb); (try clear hb2); (try clear hk); (try clear hi); (try clear ho0); (try clear ho1); (try clear ho2)) | ((with_reducible refine gate_dst (N := 13) rfl ?_); (try (refine gate_guard (by rfl) ?_; dsimp only)); refine box_event ?hg (N := 13) ?hd (cs := #[.bool false, .bool false, .bool false, .int .i64 0, .int .u16 0, .int .u32 0, .int .u32 0, .slice none 0 0, .int .u16 0, .slice none 0 0, .slice none 0 0, .int .i64 0]) (t := 45) ?hr ?_; (case hd => rfl); (case hg => rfl); (case hr => first | (go_simp; done) | (go_simp; rfl)); intro gb998 hg w84 hbox hb; replace HO_11 := rbE HO_11 hb; replace HO_971007 := rbE HO_971007 hb; replace HO_971009 := rbE HO_971009 hb; replace HO_971010 := rbE HO_971010 hb; replace HO988 := rbE HO988 hb; replace HO992 := rbE HO992 hb; replace HO995 := rbE HO995 hb; have n7_ := bbE BK920 hb; have n8_ := bbE BK970 hb; have n9_ := bstE HB hb; have BK998 := Aside0.mk (hbox); have GW998 := geE hg HB; have GE998 := geE hg HB; have NB920_998 := nlE hg BK920; have NB998_920 := ngE hg BK920; have NB970_998 := nlE hg BK970; have NB998_970 := ngE hg BK970; clear BK920; clear BK970; clear HB; have BK920 := n7_; have BK970 := n8_; have HB := n9_; clear n7_ n8_ n9_; clear hb hbox hg; have hnb85 := NB998_920.out; have hnc85 := NB920_998.out; have hnb86 := NB998_970.out; have hnc86 := NB970_998.out; obtain ⟨hcz87_0, hcz87_1, hcz87_2, hcz87_3, hcz87_4, hcz87_5, hcz87_6, hcz87_7, hcz87_8, hcz87_9, hcz87_10, hcz87_11, hfz87_0, hfz87_1, hfz87_2, hfz87_3, hfz87_4, hfz87_5, hfz87_6, hfz87_7, hfz87_8, hfz87_9, hfz87_10, hfz87_11⟩ := bc12 BK998.out; obtain ⟨Ao88, co88, eo88⟩ := Kd.R_slice HO988.out; subst eo88; obtain ⟨Ao89, co89, eo89⟩ := Kd.R_slice HO992.out; subst eo89; obtain ⟨Ao90, co90, eo90⟩ := Kd.R_slice HO995.out; subst eo90) | ((with_reducible refine gate_store (t := 45) (p := 13) rfl ?_); refine store_event (t := 45) (p := 13) (v := ?vo_w91) (w1 := ((((((((((((w84.setCell ⟨gb998, 0, none⟩ (.bool t979)).setCell ⟨gb998, 1, none⟩ (.bool t980)).setCell ⟨gb998, 2, none⟩ (.bool t981)).setCell ⟨gb998, 3, none⟩ (.int .i64 t982)).setCell ⟨gb998, 4, none⟩ (.int .u16 t983)).setCell ⟨gb998, 5, none⟩ (.int .u32 t984)).setCell ⟨gb998, 6, none⟩ (.int .u32 t985)).setCell ⟨gb998, 7, none⟩ (.slice Ao88 t986.length co88)).setCell ⟨gb998, 8, none⟩ (.int .u16 t989)).setCell ⟨gb998, 9, none⟩ (.slice Ao89 t990.length co89)).setCell ⟨gb998, 10, none⟩ (.slice Ao90 t993.length co90)).setCell ⟨gb998, 11, none⟩ (.int .i64 t996))) ?hg ?ho ?hn ?hr ?_; (case ho => rfl); (case hg => rfl); (case hn => rfl); (case hr => first | (go_simp; done) | (go_simp; rfl)); intro w91 hw; replace HO_11 : Aside0 (Kd.R (Kd.int .u8) 5 w91 w.heap.size (fun k_ => some k_ ≠ (.slice Ao57 t962.length co57 : Value).ownBlock ∧ some k_ ≠ (.slice Ao58 t965.length co58 : Value).ownBlock ∧ some k_ ≠ (.slice Ao89 t990.length co89 : Value).ownBlock ∧ some k_ ≠ (.slice Ao90 t993.length co90 : Value).ownBlock) (.slice Ao82 t973.length co82) t973) := ⟨(by rw [hw]; exact (by (with_reducible repeat (first | apply Kd.R_alloc | apply Kd.R_drewN | apply Kd.R_drew)); exact Kd.R_mono (Kd.R_far (p := ⟨gb998, 11, none⟩) (Kd.R_far (p := ⟨gb998, 10, none⟩) (Kd.R_far (p := ⟨gb998, 9, none⟩) (Kd.R_far (p := ⟨gb998, 8, none⟩) (Kd.R_far (p := ⟨gb998, 7, none⟩) (Kd.R_far (p := ⟨gb998, 6, none⟩) (Kd.R_far (p := ⟨gb998, 5, none⟩) (Kd.R_far (p := ⟨gb998, 4, none⟩) (Kd.R_far (p := ⟨gb998, 3, none⟩) (Kd.R_far (p := ⟨gb998, 2, none⟩) (Kd.R_far (p := ⟨gb998, 1, none⟩) (Kd.R_far (p := ⟨gb998, 0, none⟩) (Kd.R_types HO_11.out BK998.out (by decide)) (fun _ hk => hk.2) (.bool t979)) (fun _ hk => hk.2) (.bool t980)) (fun _ hk => hk.2) (.bool t981)) (fun _ hk => hk.2) (.int .i64 t982)) (fun _ hk => hk.2) (.int .u16 t983)) (fun _ hk => hk.2) (.int .u32 t984)) (fun _ hk => hk.2) (.int .u32 t985)) (fun _ hk => hk.2) (.slice Ao88 t986.length co88)) (fun _ hk => hk.2) (.int .u16 t989)) (fun _ hk => hk.2) (.slice Ao89 t990.length co89)) (fun _ hk => hk.2) (.slice Ao90 t993.length co90)) (fun _ hk => hk.2) (.int .i64 t996)) (fun _ hk => ⟨hk.1.1.1.1, ⟨hk.1.1.1.2, ⟨hk.1.1.2, hk.1.2⟩⟩⟩)))⟩; replace HO_971007 : Aside0 (Kd.R (Kd.int .u32) 40 w91 w.heap.size (fun k_ => some k_ ≠ (.slice Ao88 t986.length co88 : Value).ownBlock) (.slice Ao56 t958.length co56) t958) := ⟨(by rw [hw]; exact (by (with_reducible repeat (first | apply Kd.R_alloc | apply Kd.R_drewN | apply Kd.R_drew)); exact Kd.R_mono (Kd.R_far (p := ⟨gb998, 11, none⟩) (Kd.R_far (p := ⟨gb998, 10, none⟩) (Kd.R_far (p := ⟨gb998, 9, none⟩) (Kd.R_far (p := ⟨gb998, 8, none⟩) (Kd.R_far (p := ⟨gb998, 7, none⟩) (Kd.R_far (p := ⟨gb998, 6, none⟩) (Kd.R_far (p := ⟨gb998, 5, none⟩) (Kd.R_far (p := ⟨gb998, 4, none⟩) (Kd.R_far (p := ⟨gb998, 3, none⟩) (Kd.R_far (p := ⟨gb998, 2, none⟩) (Kd.R_far (p := ⟨gb998, 1, none⟩) (Kd.R_far (p := ⟨gb998, 0, none⟩) (Kd.R_types HO_971007.out BK998.out (by decide)) (fun _ hk => hk.2) (.bool t979)) (fun _ hk => hk.2) (.bool t980)) (fun _ hk => hk.2) (.bool t981)) (fun _ hk => hk.2) (.int .i64 t982)) (fun _ hk => hk.2) (.int .u16 t983)) (fun _ hk => hk.2) (.int .u32 t984)) (fun _ hk => hk.2) (.int .u32 t985)) (fun _ hk => hk.2) (.slice Ao88 t986.length co88)) (fun _ hk => hk.2) (.int .u16 t989)) (fun _ hk => hk.2) (.slice Ao89 t990.length co89)) (fun _ hk => hk.2) (.slice Ao90 t993.length co90)) (fun _ hk => hk.2) (.int .i64 t996)) (fun _ hk => hk.1.2)))⟩; replace HO_971009 : Aside0 (Kd.R (Kd.int .u8) 5 w91 w.heap.size (fun k_ => some k_ ≠ (.slice Ao82 t973.length co82 : Value).ownBlock ∧ some k_ ≠ (.slice Ao58 t965.length co58 : Value).ownBlock ∧ some k_ ≠ (.slice Ao89 t990.length co89 : Value).ownBlock ∧ some k_ ≠ (.slice Ao90 t993.length co90 : Value).ownBlock) (.slice Ao57 t962.length co57) t962) := ⟨(by rw [hw]; exact (by (with_reducible repeat (first | apply Kd.R_alloc | apply Kd.R_drewN | apply Kd.R_drew)); exact Kd.R_mono (Kd.R_far (p := ⟨gb998, 11, none⟩) (Kd.R_far (p := ⟨gb998, 10, none⟩) (Kd.R_far (p := ⟨gb998, 9, none⟩) (Kd.R_far (p := ⟨gb998, 8, none⟩) (Kd.R_far (p := ⟨gb998, 7, none⟩) (Kd.R_far (p := ⟨gb998, 6, none⟩) (Kd.R_far (p := ⟨gb998, 5, none⟩) (Kd.R_far (p := ⟨gb998, 4, none⟩) (Kd.R_far (p := ⟨gb998, 3, none⟩) (Kd.R_far (p := ⟨gb998, 2, none⟩) (Kd.R_far (p := ⟨gb998, 1, none⟩) (Kd.R_far (p := ⟨gb998, 0, none⟩) (Kd.R_types HO_971009.out BK998.out (by decide)) (fun _ hk => hk.2) (.bool t979)) (fun _ hk => hk.2) (.bool t980)) (fun _ hk => hk.2) (.bool t981)) (fun _ hk => hk.2) (.int .i64 t982)) (fun _ hk => hk.2) (.int .u16 t983)) (fun _ hk => hk.2) (.int .u32 t984)) (fun _ hk => hk.2) (.int .u32 t985)) (fun _ hk => hk.2) (.slice Ao88 t986.length co88)) (fun _ hk => hk.2) (.int .u16 t989)) (fun _ hk => hk.2) (.slice Ao89 t990.length co89)) (fun _ hk => hk.2) (.slice Ao90 t993.length co90)) (fun _ hk => hk.2) (.int .i64 t996)) (fun _ hk => ⟨hk.1.1.1.1, ⟨hk.1.1.1.2, ⟨hk.1.1.2, hk.1.2⟩⟩⟩)))⟩; replace HO_971010 : Aside0 (Kd.R (Kd.int .u8) 5 w91 w.heap.size (fun k_ => some k_ ≠ (.slice Ao82 t973.length co82 : Value).ownBlock ∧ some k_ ≠ (.slice Ao57 t962.length co57 : Value).ownBlock ∧ some k_ ≠ (.slice Ao89 t990.length co89 : Value).ownBlock ∧ some k_ ≠ (.slice Ao90 t993.length co90 : Value).ownBlock) (.slice Ao58 t965.length co58) t965) := ⟨(by rw [hw]; exact (by (with_reducible repeat (first | apply Kd.R_alloc | apply Kd.R_drewN | apply Kd.R_drew)); exact Kd.R_mono (Kd.R_far (p := ⟨gb998, 11, none⟩) (Kd.R_far (p := ⟨gb998, 10, none⟩) (Kd.R_far (p := ⟨gb998, 9, none⟩) (Kd.R_far (p := ⟨gb998, 8, none⟩) (Kd.R_far (p := ⟨gb998, 7, none⟩) (Kd.R_far (p := ⟨gb998, 6, none⟩) (Kd.R_far (p := ⟨gb998, 5, none⟩) (Kd.R_far (p := ⟨gb998, 4, none⟩) (Kd.R_far (p := ⟨gb998, 3, none⟩) (Kd.R_far (p := ⟨gb998, 2, none⟩) (Kd.R_far (p := ⟨gb998, 1, none⟩) (Kd.R_far (p := ⟨gb998, 0, none⟩) (Kd.R_types HO_971010.out BK998.out (by decide)) (fun _ hk => hk.2) (.bool t979)) (fun _ hk => hk.2) (.bool t980)) (fun _ hk => hk.2) (.bool t981)) (fun _ hk => hk.2) (.int .i64 t982)) (fun _ hk => hk.2) (.int .u16 t983)) (fun _ hk => hk.2) (.int .u32 t984)) (fun _ hk => hk.2) (.int .u32 t985)) (fun _ hk => hk.2) (.slice Ao88 t986.length co88)) (fun _ hk => hk.2) (.int .u16 t989)) (fun _ hk => hk.2) (.slice Ao89 t990.length co89)) (fun _ hk => hk.2) (.slice Ao90 t993.length co90)) (fun _ hk => hk.2) (.int .i64 t996)) (fun _ hk => ⟨hk.1.1.1.1, ⟨hk.1.1.1.2, ⟨hk.1.1.2, hk.1.2⟩⟩⟩)))⟩; replace HO988 : Aside0 (Kd.R (Kd.int .u32) 40 w91 w.heap.size (fun k_ => some k_ ≠ (.slice Ao56 t958.length co56 : Value).ownBlock) (.slice Ao88 t986.length co88) t986) := ⟨(by rw [hw]; exact (by (with_reducible repeat (first | apply Kd.R_alloc | apply Kd.R_drewN | apply Kd.R_drew)); exact Kd.R_mono (Kd.R_far (p := ⟨gb998, 11, none⟩) (Kd.R_far (p := ⟨gb998, 10, none⟩) (Kd.R_far (p := ⟨gb998, 9, none⟩) (Kd.R_far (p := ⟨gb998, 8, none⟩) (Kd.R_far (p := ⟨gb998, 7, none⟩) (Kd.R_far (p := ⟨gb998, 6, none⟩) (Kd.R_far (p := ⟨gb998, 5, none⟩) (Kd.R_far (p := ⟨gb998, 4, none⟩) (Kd.R_far (p := ⟨gb998, 3, none⟩) (Kd.R_far (p := ⟨gb998, 2, none⟩) (Kd.R_far (p := ⟨gb998, 1, none⟩) (Kd.R_far (p := ⟨gb998, 0, none⟩) (Kd.R_types HO988.out BK998.out (by decide)) (fun _ hk => hk.2) (.bool t979)) (fun _ hk => hk.2) (.bool t980)) (fun _ hk => hk.2) (.bool t981)) (fun _ hk => hk.2) (.int .i64 t982)) (fun _ hk => hk.2) (.int .u16 t983)) (fun _ hk => hk.2) (.int .u32 t984)) (fun _ hk => hk.2) (.int .u32 t985)) (fun _ hk => hk.2) (.slice Ao88 t986.length co88)) (fun _ hk => hk.2) (.int .u16 t989)) (fun _ hk => hk.2) (.slice Ao89 t990.length co89)) (fun _ hk => hk.2) (.slice Ao90 t993.length co90)) (fun _ hk => hk.2) (.int .i64 t996)) (fun _ hk => hk.1.2)))⟩; replace HO992 : Aside0 (Kd.R (Kd.int .u8) 5 w91 w.heap.size (fun k_ => some k_ ≠ (.slice Ao82 t973.length co82 : Value).ownBlock ∧ some k_ ≠ (.slice Ao57 t962.length co57 : Value).ownBlock ∧ some k_ ≠ (.slice Ao58 t965.length co58 : Value).ownBlock ∧ some k_ ≠ (.slice Ao90 t993.length co90 : Value).ownBlock) (.slice Ao89 t990.length co89) t990) := ⟨(by rw [hw]; exact (by (with_reducible repeat (first | apply Kd.R_alloc | apply Kd.R_drewN | apply Kd.R_drew)); exact Kd.R_mono (Kd.R_far (p := ⟨gb998, 11, none⟩) (Kd.R_far (p := ⟨gb998, 10, none⟩) (Kd.R_far (p := ⟨gb998, 9, none⟩) (Kd.R_far (p := ⟨gb998, 8, none⟩) (Kd.R_far (p := ⟨gb998, 7, none⟩) (Kd.R_far (p := ⟨gb998, 6, none⟩) (Kd.R_far (p := ⟨gb998, 5, none⟩) (Kd.R_far (p := ⟨gb998, 4, none⟩) (Kd.R_far (p := ⟨gb998, 3, none⟩) (Kd.R_far (p := ⟨gb998, 2, none⟩) (Kd.R_far (p := ⟨gb998, 1, none⟩) (Kd.R_far (p := ⟨gb998, 0, none⟩) (Kd.R_types HO992.out BK998.out (by decide)) (fun _ hk => hk.2) (.bool t979)) (fun _ hk => hk.2) (.bool t980)) (fun _ hk => hk.2) (.bool t981)) (fun _ hk => hk.2) (.int .i64 t982)) (fun _ hk => hk.2) (.int .u16 t983)) (fun _ hk => hk.2) (.int .u32 t984)) (fun _ hk => hk.2) (.int .u32 t985)) (fun _ hk => hk.2) (.slice Ao88 t986.length co88)) (fun _ hk => hk.2) (.int .u16 t989)) (fun _ hk => hk.2) (.slice Ao89 t990.length co89)) (fun _ hk => hk.2) (.slice Ao90 t993.length co90)) (fun _ hk => hk.2) (.int .i64 t996)) (fun _ hk => ⟨hk.1.1.1.2, ⟨hk.1.1.2, ⟨hk.1.2, hk.1.1.1.1⟩⟩⟩)))⟩; replace HO995 : Aside0 (Kd.R (Kd.int .u8) 5 w91 w.heap.size (fun k_ => some k_ ≠ (.slice Ao82 t973.length co82 : Value).ownBlock ∧ some k_ ≠ (.slice Ao57 t962.length co57 : Value).ownBlock ∧ some k_ ≠ (.slice Ao58 t965.length co58 : Value).ownBlock ∧ some k_ ≠ (.slice Ao89 t990.length co89 : Value).ownBlock) (.slice Ao90 t993.length co90) t993) := ⟨(by rw [hw]; exact (by (with_reducible repeat (first | apply Kd.R_alloc | apply Kd.R_drewN | apply Kd.R_drew)); exact Kd.R_mono (Kd.R_far (p := ⟨gb998, 11, none⟩) (Kd.R_far (p := ⟨gb998, 10, none⟩) (Kd.R_far (p := ⟨gb998, 9, none⟩) (Kd.R_far (p := ⟨gb998, 8, none⟩) (Kd.R_far (p := ⟨gb998, 7, none⟩) (Kd.R_far (p := ⟨gb998, 6, none⟩) (Kd.R_far (p := ⟨gb998, 5, none⟩) (Kd.R_far (p := ⟨gb998, 4, none⟩) (Kd.R_far (p := ⟨gb998, 3, none⟩) (Kd.R_far (p := ⟨gb998, 2, none⟩) (Kd.R_far (p := ⟨gb998, 1, none⟩) (Kd.R_far (p := ⟨gb998, 0, none⟩) (Kd.R_types HO995.out BK998.out (by decide)) (fun _ hk => hk.2) (.bool t979)) (fun _ hk => hk.2) (.bool t980)) (fun _ hk => hk.2) (.bool t981)) (fun _ hk => hk.2) (.int .i64 t982)) (fun _ hk => hk.2) (.int .u16 t983)) (fun _ hk => hk.2) (.int .u32 t984)) (fun _ hk => hk.2) (.int .u32 t985)) (fun _ hk => hk.2) (.slice Ao88 t986.length co88)) (fun _ hk => hk.2) (.int .u16 t989)) (fun _ hk => hk.2) (.slice Ao89 t990.length co89)) (fun _ hk => hk.2) (.slice Ao90 t993.length co90)) (fun _ hk => hk.2) (.int .i64 t996)) (fun _ hk => ⟨hk.1.1.1.2, ⟨hk.1.1.2, ⟨hk.1.2, hk.1.1.1.1⟩⟩⟩)))⟩; replace BK920 := bfE hw BK920 NB920_998; replace BK970 := bfE hw BK970 NB970_998; replace BK998 : Aside0 (w91.heap[gb998]? = some (.cells #[.bool t979, .bool t980, .bool t981, .int .i64 t982, .int .u16 t983, .int .u32 t984, .int .u32 t985, .slice Ao88 t986.length co88, .int .u16 t989, .slice Ao89 t990.length co89, .slice Ao90 t993.length co90, .int .i64 t996] 45 (0, 0))) := ⟨by rw [hw]; apply puts12; exact BK998.out⟩; replace HB := bsE hw HB GE998; clear hw; have hnb92 := NB970_920.out; have hnc92 := NB920_970.out; obtain ⟨hcz93_0, hcz93_1, hcz93_2, hcz93_3, hcz93_4, hcz93_5, hcz93_6, hcz93_7, hcz93_8, hcz93_9, hcz93_10, hcz93_11, hfz93_0, hfz93_1, hfz93_2, hfz93_3, hfz93_4, hfz93_5, hfz93_6, hfz93_7, hfz93_8, hfz93_9, hfz93_10, hfz93_11⟩ := bc12 BK970.out; obtain ⟨hcz94_0, hcz94_1, hcz94_2, hcz94_3, hcz94_4, hcz94_5, hcz94_6, hcz94_7, hcz94_8, hcz94_9, hcz94_10, hcz94_11, hfz94_0, hfz94_1, hfz94_2, hfz94_3, hfz94_4, hfz94_5, hfz94_6, hfz94_7, hfz94_8, hfz94_9, hfz94_10, hfz94_11⟩ := bc12 BK998.out) | (go_at_call 18; (with_reducible refine (crossbarref06_Same.calls kj50 t951 t952 t953 t954 t955 t956 t957 _ _ t958 t961 _ _ t962 _ _ t965 t968 t979 t980 t981 t982 t983 t984 t985 _ _ t986 t989 _ _ t990 _ _ t993 t996 t999 _ ?side1 ?side2 ?side3 ?side4 ?side5 ?side6 ?side7 ?side8 ?side9 ?side10 ?side11 ?side12 A81.out).mono ?_); (case side1 => repeat (first | exact (Kd.R_reads' HO_971007.out).2.2 | (with_reducible refine Kd.C_alloc ?_ _) | (with_reducible refine Kd.C_drewN ?_ _) | (with_reducible refine Kd.C_drew ?_))); (case side2 => exact (Kd.R_reads' HO_971007.out).2.1); (case side3 => repeat (first | exact (Kd.R_reads' HO_971009.out).2.2 | (with_reducible refine Kd.C_alloc ?_ _) | (with_reducible refine Kd.C_drewN ?_ _) | (with_reducible refine Kd.C_drew ?_))); (case side4 => exact (Kd.R_reads' HO_971009.out).2.1); (case side5 => repeat (first | exact (Kd.R_reads' HO_971010.out).2.2 | (with_reducible refine Kd.C_alloc ?_ _) | (with_reducible refine Kd.C_drewN ?_ _) | (with_reducible refine Kd.C_drew ?_))); (case side6 => exact (Kd.R_reads' HO_971010.out).2.1); (case side7 => repeat (first | exact (Kd.R_reads' HO988.out).2.2 | (with_reducible refine Kd.C_alloc ?_ _) | (with_reducible refine Kd.C_drewN ?_ _) | (with_reducible refine Kd.C_drew ?_))); (case side8 => exact (Kd.R_reads' HO988.out).2.1); (case side9 => repeat (first | exact (Kd.R_reads' HO992.out).2.2 | (with_reducible refine Kd.C_alloc ?_ _) | (with_reducible refine Kd.C_drewN ?_ _) | (with_reducible refine Kd.C_drew ?_))); (case side10 => exact (Kd.R_reads' HO992.out).2.1); (case side11 => repeat (first | exact (Kd.R_reads' HO995.out).2.2 | (with_reducible refine Kd.C_alloc ?_ _) | (with_reducible refine Kd.C_drewN ?_ _) | (with_reducible refine Kd.C_drew ?_))); (case side12 => exact (Kd.R_reads' HO995.out).2.1); rintro e w95 ⟨rfl, hb⟩; replace HO_11 := rbE HO_11 hb; replace HO_971007 := rbE HO_971007 hb; replace HO_971009 := rbE HO_971009 hb; replace HO_971010 := rbE HO_971010 hb; replace HO988 := rbE HO988 hb; replace HO992 := rbE HO992 hb; replace HO995 := rbE HO995 hb; replace BK920 := bbE BK920 hb; replace BK970 := bbE BK970 hb; replace BK998 := bbE BK998 hb; replace HB := bstE HB hb; (try clear hb); (try clear hb2); (try clear hk); (try clear hi)))
                    go_ret
                    exact ⟨by first | rfl | (simp [errW_none, errW_some] <;> rfl) | (simp [*, errW_none, errW_some] <;> rfl), by repeat (first | (with_reducible first | exact HB.out | apply below_alloc | apply pw_below_drewN | apply below_drew1 | refine below_set ?_ GE920.out | refine below_set ?_ GE970.out | refine below_set ?_ GE998.out) | exact HB.out)⟩
                  rw [if_neg c80] at H
                  exact absurd H (by simp)
            rw [if_neg c49] at H
            have c49b0 : (t969 == 0) = false := beq_eq_false_iff_ne.mpr c49
            have c49b1 : (t969 != 0) = true := bne_iff_ne.mpr c49
            replace H := Option.bind_eq_some_iff.mp H
            obtain ⟨t971, A960, H⟩ := H
            replace H : (if t971 = true then (none) else ((crossbarref06_Same.f kj15 t951 t952 t953 t954 t955 t956 t957 t958 t961 t962 t965 t968 false false false 0 0 0 0 ([] : List Int) 0 ([] : List Int) ([] : List Int) 0).bind fun t972 => (some t972))) = some r := H
            have A96 := Aside0.mk A960
            clear A960
            by_cases c97 : t971 = true
            · subst c97
              have H1 : (none) = some r := by rw [if_pos rfl] at H; exact H
              clear H
              have H := H1
              clear H1
              exact absurd H (by simp)
            replace c97 := Bool.eq_false_iff.mpr c97
            subst c97
            have H1 : ((crossbarref06_Same.f kj15 t951 t952 t953 t954 t955 t956 t957 t958 t961 t962 t965 t968 false false false 0 0 0 0 ([] : List Int) 0 ([] : List Int) ([] : List Int) 0).bind fun t972 => (some t972)) = some r := by rw [if_neg (show ¬ (false = true) by decide)] at H; exact H
            clear H
            have H := H1
            clear H1
            replace H := Option.bind_eq_some_iff.mp H
            obtain ⟨t972, A980, H⟩ := H
            replace H : (some t972) = some r := H
            have A98 := Aside0.mk A980
            clear A980
            obtain rfl := Option.some.inj H
            go_wp2_with (first | ((with_reducible refine gate_callee (f := 17) rfl ?_); refine goesL_ (some 66) rfl rfl Try.func17 (by kernel_rfl) rfl #[.slice A1 l1.length c1] rfl (by (try simp only [List.map_toArray, List.map_cons, List.map_nil]); first | done | rfl | (simp only [List.length_drop, List.length_take]; rfl)) ?_; (with_reducible refine (packet_Read.calls kj15 _ _ l1 t951 t952 t953 t954 t955 t956 t957 t958 t961 t962 t965 t968 t969 _ ?side1 ?side2 A48.out).mono ?_); (case side1 => repeat (first | exact (Kd.C_below HR1.out HB.out) | (with_reducible refine Kd.C_alloc ?_ _) | (with_reducible refine Kd.C_drewN ?_ _) | (with_reducible refine Kd.C_drew ?_))); (case side2 => exact HC1.out); rintro e w99 ⟨v959, v963, v966, rfl, ho0, ho1, ho2, hb⟩; refine ⟨_, rfl, ?_⟩; have HO960 := Aside0.mk (Kd.R_lower ho0 (below_size (pB HB))); have HO964 := Aside0.mk (Kd.R_lower ho1 (below_size (pB HB))); have HO967 := Aside0.mk (Kd.R_lower ho2 (below_size (pB HB))); replace BK920 := bbE BK920 hb; replace HB := bstE HB hb; (try clear hb); (try clear hb2); (try clear hk); (try clear hi); (try clear ho0); (try clear ho1); (try clear ho2)) | ((with_reducible refine gate_dst (N := 9) rfl ?_); (try (refine gate_guard (by rfl) ?_; dsimp only)); refine box_event ?hg (N := 9) ?hd (cs := #[.bool false, .bool false, .bool false, .int .i64 0, .int .u16 0, .int .u32 0, .int .u32 0, .slice none 0 0, .int .u16 0, .slice none 0 0, .slice none 0 0, .int .i64 0]) (t := 45) ?hr ?_; (case hd => rfl); (case hg => rfl); (case hr => first | (go_simp; done) | (go_simp; rfl)); intro gb970 hg w100 hbox hb; replace HO960 := rbE HO960 hb; replace HO964 := rbE HO964 hb; replace HO967 := rbE HO967 hb; have n3_ := bbE BK920 hb; have n4_ := bstE HB hb; have BK970 := Aside0.mk (hbox); have GW970 := geE hg HB; have GE970 := geE hg HB; have NB920_970 := nlE hg BK920; have NB970_920 := ngE hg BK920; clear BK920; clear HB; have BK920 := n3_; have HB := n4_; clear n3_ n4_; clear hb hbox hg; have hnb101 := NB970_920.out; have hnc101 := NB920_970.out; obtain ⟨hcz102_0, hcz102_1, hcz102_2, hcz102_3, hcz102_4, hcz102_5, hcz102_6, hcz102_7, hcz102_8, hcz102_9, hcz102_10, hcz102_11, hfz102_0, hfz102_1, hfz102_2, hfz102_3, hfz102_4, hfz102_5, hfz102_6, hfz102_7, hfz102_8, hfz102_9, hfz102_10, hfz102_11⟩ := bc12 BK970.out; obtain ⟨Ao103, co103, eo103⟩ := Kd.R_slice HO960.out; subst eo103; obtain ⟨Ao104, co104, eo104⟩ := Kd.R_slice HO964.out; subst eo104; obtain ⟨Ao105, co105, eo105⟩ := Kd.R_slice HO967.out; subst eo105) | ((with_reducible refine gate_store (t := 45) (p := 9) rfl ?_); refine store_event (t := 45) (p := 9) (v := ?vo_w106) (w1 := ((((((((((((w100.setCell ⟨gb970, 0, none⟩ (.bool t951)).setCell ⟨gb970, 1, none⟩ (.bool t952)).setCell ⟨gb970, 2, none⟩ (.bool t953)).setCell ⟨gb970, 3, none⟩ (.int .i64 t954)).setCell ⟨gb970, 4, none⟩ (.int .u16 t955)).setCell ⟨gb970, 5, none⟩ (.int .u32 t956)).setCell ⟨gb970, 6, none⟩ (.int .u32 t957)).setCell ⟨gb970, 7, none⟩ (.slice Ao103 t958.length co103)).setCell ⟨gb970, 8, none⟩ (.int .u16 t961)).setCell ⟨gb970, 9, none⟩ (.slice Ao104 t962.length co104)).setCell ⟨gb970, 10, none⟩ (.slice Ao105 t965.length co105)).setCell ⟨gb970, 11, none⟩ (.int .i64 t968))) ?hg ?ho ?hn ?hr ?_; (case ho => rfl); (case hg => rfl); (case hn => rfl); (case hr => first | (go_simp; done) | (go_simp; rfl)); intro w106 hw; replace HO960 := rfE hw HO960 BK970; replace HO964 := rfE hw HO964 BK970; replace HO967 := rfE hw HO967 BK970; replace BK920 := bfE hw BK920 NB920_970; replace BK970 : Aside0 (w106.heap[gb970]? = some (.cells #[.bool t951, .bool t952, .bool t953, .int .i64 t954, .int .u16 t955, .int .u32 t956, .int .u32 t957, .slice Ao103 t958.length co103, .int .u16 t961, .slice Ao104 t962.length co104, .slice Ao105 t965.length co105, .int .i64 t968] 45 (0, 0))) := ⟨by rw [hw]; apply puts12; exact BK970.out⟩; replace HB := bsE hw HB GE970; clear hw) | ((with_reducible refine gate_callee (f := 28) rfl ?_); refine goesL_ (some 72) rfl rfl Try.func28 (by kernel_rfl) rfl #[.slice A1 l1.length c1] rfl (by (try simp only [List.map_toArray, List.map_cons, List.map_nil]); first | done | rfl | (simp only [List.length_drop, List.length_take]; rfl)) ?_; (with_reducible refine (packet_Canon.calls kj15 _ _ l1 false _ ?side1 ?side2 A96.out).mono ?_); (case side1 => repeat (first | exact (Kd.C_below HR1.out HB.out) | (with_reducible refine Kd.C_alloc ?_ _) | (with_reducible refine Kd.C_drewN ?_ _) | (with_reducible refine Kd.C_drew ?_))); (case side2 => exact HC1.out); rintro e w107 ⟨rfl, hb⟩; refine ⟨_, rfl, ?_⟩; replace HO960 := rbE HO960 hb; replace HO964 := rbE HO964 hb; replace HO967 := rbE HO967 hb; replace BK920 := bbE BK920 hb; replace BK970 := bbE BK970 hb; replace HB := bstE HB hb; (try clear hb); (try clear hb2); (try clear hk); (try clear hi); obtain ⟨hcz108_0, hcz108_1, hcz108_2, hcz108_3, hcz108_4, hcz108_5, hcz108_6, hcz108_7, hcz108_8, hcz108_9, hcz108_10, hcz108_11, hfz108_0, hfz108_1, hfz108_2, hfz108_3, hfz108_4, hfz108_5, hfz108_6, hfz108_7, hfz108_8, hfz108_9, hfz108_10, hfz108_11⟩ := bc12 BK970.out) | (go_at_call 18; (refine (crossbarref06_Same.calls kj15 t951 t952 t953 t954 t955 t956 t957 _ _ t958 t961 _ _ t962 _ _ t965 t968 false false false 0 0 0 0 _ _ ([] : List Int) 0 _ _ ([] : List Int) _ _ ([] : List Int) 0 t972 _ ?side1 ?side2 ?side3 ?side4 ?side5 ?side6 ?side7 ?side8 ?side9 ?side10 ?side11 ?side12 A98.out).mono ?_); (case side1 => repeat (first | exact (Kd.R_reads' HO960.out).2.2 | (with_reducible refine Kd.C_alloc ?_ _) | (with_reducible refine Kd.C_drewN ?_ _) | (with_reducible refine Kd.C_drew ?_))); (case side2 => exact (Kd.R_reads' HO960.out).2.1); (case side3 => repeat (first | exact (Kd.R_reads' HO964.out).2.2 | (with_reducible refine Kd.C_alloc ?_ _) | (with_reducible refine Kd.C_drewN ?_ _) | (with_reducible refine Kd.C_drew ?_))); (case side4 => exact (Kd.R_reads' HO964.out).2.1); (case side5 => repeat (first | exact (Kd.R_reads' HO967.out).2.2 | (with_reducible refine Kd.C_alloc ?_ _) | (with_reducible refine Kd.C_drewN ?_ _) | (with_reducible refine Kd.C_drew ?_))); (case side6 => exact (Kd.R_reads' HO967.out).2.1); (case side7 => exact Kd.C_nil _ _); (case side8 => exact Nat.le_refl _); (case side9 => exact Kd.C_nil _ _); (case side10 => exact Nat.le_refl _); (case side11 => exact Kd.C_nil _ _); (case side12 => exact Nat.le_refl _); rintro e w109 ⟨rfl, hb⟩; replace HO960 := rbE HO960 hb; replace HO964 := rbE HO964 hb; replace HO967 := rbE HO967 hb; replace BK920 := bbE BK920 hb; replace BK970 := bbE BK970 hb; replace HB := bstE HB hb; (try clear hb); (try clear hb2); (try clear hk); (try clear hi)))
            go_ret
            exact ⟨by first | rfl | (simp [errW_none, errW_some] <;> rfl) | (simp [*, errW_none, errW_some] <;> rfl), by repeat (first | (with_reducible first | exact HB.out | apply below_alloc | apply pw_below_drewN | apply below_drew1 | refine below_set ?_ GE920.out | refine below_set ?_ GE970.out) | exact HB.out)⟩
  replace c4 := Bool.eq_false_iff.mpr c4
  subst c4
  have H1 : (none) = some r := by rw [if_neg (show ¬ (false = true) by decide)] at H; exact H
  clear H
  have H := H1
  clear H1
  exact absurd H (by simp)
end Go.Proofs.Ytcbdgknfkoodoaa.F
namespace Go.Proofs.YtcbdgknfkoodoaaW.RowKd
open Go Go.ChangeShapes Go.WideShapes Go.RowKit Go.Deep Go.Proofs.YtcbdgknfkoodoaaW.PrintWords
set_option linter.unusedVariables false
abbrev IQ (k : IntKind) : Int → Prop := fun n => (Lit.int k n).wf = true
abbrev TQ : Bool → Prop := fun _ => True
abbrev LQ {α : Type} (Q : α → Prop) : List α → Prop := fun xs => xs.length ≤ maxLen ∧ ∀ x ∈ xs, Q x
abbrev PQ {α β : Type} (Q : α → Prop) (Q' : β → Prop) : α × β → Prop := fun v => Q v.1 ∧ Q' v.2
def Opn (H : Type) (enc : TypeId × Value → H) (P : Program) (w : World) {α : Type} (d : Kd α) (t : TypeId) (Q : α → Prop) : Prop :=
  ∀ (fuel : Nat) (cs : List Value) (x : DataW H × List MemPlace), DataW.trod enc P w 0 (fun _ => true) true fuel t cs = some x → ∃ v, d.K w v cs ∧ Q v
section
variable {H : Type} {enc : TypeId × Value → H} {P : Program} {w : World}
theorem op_int {t : TypeId} {k : IntKind} (ht : P.underlying t = some (.int k)) : Opn H enc P w (Kd.int k) t (IQ k) := by
  intro fuel cs x h
  obtain ⟨n, rfl, _, hw⟩ := DataW.trod_int ht h
  exact ⟨n, rfl, hw⟩
theorem op_bool {t : TypeId} (ht : P.underlying t = some .bool) : Opn H enc P w Kd.bool t TQ := by
  intro fuel cs x h
  obtain ⟨n, rfl, _⟩ := DataW.trod_bool ht h
  exact ⟨n, rfl, trivial⟩
theorem list_of {α : Type} {p : Nat → α → Prop} : ∀ {n : Nat}, (∀ i, i < n → ∃ v, p i v) → ∃ xs : List α, xs.length = n ∧ ∀ i v, xs[i]? = some v → p i v
  | 0, _ => ⟨[], rfl, fun i v h => by simp at h⟩
  | n + 1, h => by
    obtain ⟨xs, hl, hx⟩ := list_of (n := n) (fun i hi => h i (by omega))
    obtain ⟨v, hv⟩ := h n (by omega)
    refine ⟨xs ++ [v], by simp [hl], fun i u hu => ?_⟩
    by_cases hi : i < n
    · rw [List.getElem?_append_left (by omega)] at hu
      exact hx i u hu
    · rw [List.getElem?_append_right (by omega)] at hu
      have hi' : i = n := by
        by_cases h' : i - xs.length = 0
        · omega
        · rw [List.getElem?_eq_none (by simp; omega)] at hu
          exact absurd hu (by simp)
      subst hi'
      simp [hl] at hu
      subst hu
      exact hv
theorem maxLen_le : maxLen ≤ 9223372036854775807 := by decide
theorem op_slice {α : Type} {d : Kd α} {t e : TypeId} (g : Nat) {Q : α → Prop} (ht : P.underlying t = some (.slice e)) (hd : P.cellsOf e = d.sz) (he : Opn H enc P w d e Q) :
    Opn H enc P w (Kd.slice g d) t (LQ Q) := by
  intro fuel cs x h
  rcases DataW.trod_slice ht h with ⟨rfl, _⟩ | ⟨a, len, cap, elems, rest, n, _, rfl, _, hb, hl, hm, hlen, hel, _, _⟩
  · exact ⟨[], ⟨none, 0, rfl, Nat.le_refl _, rfl, Nat.zero_le _, fun h => absurd h (by simp)⟩, Nat.zero_le _, fun _ h => by simp at h⟩
  have each : ∀ i, i < len → ∃ v, (∃ c, c.length = d.sz ∧ d.K w v c ∧ ∀ j u, c[j]? = some u → w.cell? (a.add (i * d.sz + j)) = some u) ∧ Q v := by
    intro i hi
    have h1 := hel i hi
    rw [List.getElem?_eq_getElem (by omega)] at h1
    obtain ⟨c, hc, hx⟩ := Option.bind_eq_some_iff.1 h1
    obtain ⟨v, hv, hq⟩ := he n c _ hx
    obtain ⟨_, hcl, hcell⟩ := World.cells?_some hc
    refine ⟨v, ⟨c, by rw [hcl, hd], hv, fun j u hu => ?_⟩, hq⟩
    have hj : j < P.cellsOf e := by
      rw [← hcl]
      exact (List.getElem?_eq_some_iff.1 hu).1
    have := hcell j hj
    rw [Go.Deep.add_add, hu, hd] at this
    exact this
  obtain ⟨xs, hxl, hx⟩ := list_of each
  subst hxl
  refine ⟨xs, ⟨some a, cap, rfl, hl, rfl, Nat.le_trans hl (Nat.le_trans hm maxLen_le), fun _ => ⟨a, rfl, fun j p hp => (hx j p hp).1⟩⟩, Nat.le_trans hl hm, fun y hy => ?_⟩
  obtain ⟨i, hi⟩ := List.getElem?_of_mem hy
  exact (hx i y hi).2
def OpF (H : Type) (enc : TypeId × Value → H) (P : Program) (w : World) {α : Type} (d : Kd α) (off all : Nat) (fs : List Field) (Q : α → Prop) : Prop :=
  ∀ (n : Nat) (cs : List Value), cs.length = all → (∀ f ∈ fs, ∃ y, DataW.trod enc P w 0 (fun _ => true) true n f.type ((cs.drop f.offset).take (P.cellsOf f.type)) = some y) → ∃ v, d.K w v (cs.drop off) ∧ Q v
theorem opf_one {α : Type} {d : Kd α} {f : Field} {off all : Nat} {Q : α → Prop} (ho : f.offset = off) (ha : off + P.cellsOf f.type = all) (h : Opn H enc P w d f.type Q) : OpF H enc P w d off all [f] Q := by
  intro n cs hl hf
  obtain ⟨y, hy⟩ := hf f (by simp)
  rw [ho, List.take_of_length_le (by simp; omega)] at hy
  exact h _ _ _ hy
theorem opf_cons {α β : Type} {d : Kd α} {d' : Kd β} {f : Field} {fs : List Field} {off all : Nat} {Q : α → Prop} {Q' : β → Prop} (ho : f.offset = off) (h : Opn H enc P w d f.type Q) (h' : OpF H enc P w d' (off + P.cellsOf f.type) all fs Q') :
    OpF H enc P w (Kd.pair d d') off all (f :: fs) (PQ Q Q') := by
  intro n cs hl hf
  obtain ⟨y, hy⟩ := hf f (by simp)
  obtain ⟨v, hv, hq⟩ := h _ _ _ hy
  obtain ⟨v', hv', hq'⟩ := h' n cs hl (fun g hg => hf g (List.mem_cons_of_mem _ hg))
  refine ⟨(v, v'), ⟨_, _, ?_, hv, hv'⟩, hq, hq'⟩
  rw [ho, ← List.drop_drop, List.take_append_drop]
theorem op_struct {α : Type} {d : Kd α} {t : TypeId} {fs : Array Field} {l : List Field} {Q : α → Prop} (ht : P.underlying t = some (.struct fs)) (hl : fs.toList = l) {all : Nat} (ha : P.cellsOf t = all) (h : OpF H enc P w d 0 all l Q) : Opn H enc P w d t Q := by
  intro fuel cs x hx
  obtain ⟨xs, n, _, _, hlen, hxl, hf⟩ := DataW.trod_struct ht hx
  have := h n cs (by rw [hlen, ha]) (fun f hfm => by
    rw [← hl] at hfm
    obtain ⟨i, hi⟩ := List.getElem?_of_mem hfm
    have hi' : fs[i]? = some f := by simpa using hi
    have h2 := hf i f hi'
    have hlt : i < xs.length := by
      rw [hxl]
      exact (Array.getElem?_eq_some_iff.1 hi').1
    rw [List.getElem?_eq_getElem hlt] at h2
    exact ⟨_, h2⟩)
  simpa using this
theorem Opn.read {α : Type} {d : Kd α} {t : TypeId} {Q : α → Prop} (h : Opn H enc P w d t Q) {v : Value} {x : DataW H} {ps : List MemPlace} (ht : DataW.Trod enc P w 0 (fun _ => true) true t v x ps) : ∃ y, d.K w y v.cells.toList ∧ Q y := by
  obtain ⟨fuel, hf⟩ := ht
  exact h _ _ _ hf
end
end Go.Proofs.YtcbdgknfkoodoaaW.RowKd
