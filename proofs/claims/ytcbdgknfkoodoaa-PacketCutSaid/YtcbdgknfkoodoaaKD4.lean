/- The walks of the program's functions and the plain proofs for this claim, merged by a program; each theorem says what it says, no conditions beyond those stated. -/
import Derived.Test.YtcbdgknfkoodoaaKD0
import Derived.Test.YtcbdgknfkoodoaaKD2
import Derived.Test.YtcbdgknfkoodoaaKD3
namespace Go.Proofs.Ytcbdgknfkoodoaa.F
open Go.RowKit Go.Proofs.YtcbdgknfkoodoaaW.PrintWords Go.Proofs.YtcbdgknfkoodoaaW.PrintLast Go.Proofs.YtcbdgknfkoodoaaW.PrintMore
attribute [local go_sem] max2_int min2_int max_two min_two max_three min_three max_four min_four   
set_option linter.unusedVariables false
set_option linter.unusedSimpArgs false
def packet_Read.f (k : Nat) (l0 : List Int) : Option (Bool × Bool × Bool × Int × Int × Int × Int × List Int × Int × List Int × List Int × Int × Int) := (packet_open.f k l0).bind fun bt211 => (some (bt211.1, bt211.2.1, bt211.2.2.1, bt211.2.2.2.1, bt211.2.2.2.2.1, bt211.2.2.2.2.2.1, bt211.2.2.2.2.2.2.1, bt211.2.2.2.2.2.2.2.1, bt211.2.2.2.2.2.2.2.2.1, bt211.2.2.2.2.2.2.2.2.2.1, bt211.2.2.2.2.2.2.2.2.2.2.1, bt211.2.2.2.2.2.2.2.2.2.2.2.1, bt211.2.2.2.2.2.2.2.2.2.2.2.2.2))
theorem packet_Read.mono : ∀ a0 k, LeO (packet_Read.f k a0) (packet_Read.f (k + 1) a0) := by
 intro a0 k
 unfold packet_Read.f
 repeat' first
   | (with_reducible exact packet_open.mono _ _)
   | (with_reducible exact LeO.refl _)
   | (with_reducible exact LeO.none _)
   | (with_reducible refine LeO.ite ?_ ?_)
   | (with_reducible refine LeO.bind ?_ (fun _ => ?_))
   | exact packet_open.mono _ _
   | exact LeO.none _
   | refine LeO.ite ?_ ?_
   | refine LeO.bind ?_ (fun _ => ?_)
set_option maxHeartbeats 8000000 in
set_option maxRecDepth 100000 in
theorem packet_Read.calls (k : Nat) (A0 : Option Addr) (c0 : Nat) (l0 : List Int) (r1 : Bool) (r2 : Bool) (r3 : Bool) (r4 : Int) (r5 : Int) (r6 : Int) (r7 : Int) (r8 : List Int) (r9 : Int) (r10 : List Int) (r11 : List Int) (r12 : Int) (r13 : Int) (w : World) (hr0 : Kd.C (Kd.int .u8) w A0 l0.length l0) (hc0 : l0.length ≤ c0) (h : packet_Read.f k l0 = some (r1, r2, r3, r4, r5, r6, r7, r8, r9, r10, r11, r12, r13)) :
  Calls Try.prog 17 #[.slice A0 l0.length c0] w fun e w' => ∃ v7_ v9_ v10_ : Value, e = .returned (.tuple #[.agg #[.bool r1, .bool r2, .bool r3, .int .i64 r4, .int .u16 r5, .int .u32 r6, .int .u32 r7, v7_, .int .u16 r9, v9_, v10_, .int .i64 r12], .int .i64 r13]) ∧ Kd.R (Kd.int .u32) 40 w' w.heap.size (fun _ => True) v7_ r8 ∧ Kd.R (Kd.int .u8) 5 w' w.heap.size (fun k_ => some k_ ≠ (v10_ : Value).ownBlock) v9_ r10 ∧ Kd.R (Kd.int .u8) 5 w' w.heap.size (fun k_ => some k_ ≠ (v9_ : Value).ownBlock) v10_ r11 ∧ Below w.heap.size w w' := by
 have hu45 := Try.underlying45
 have HR0 := Aside0.mk hr0
 have HC0 := Aside0.mk hc0
 clear hr0 hc0
 have HB := Aside0.mk (Below.refl w.heap.size w)
 have H : ((packet_open.f k l0).bind fun bt211 => (some (bt211.1, bt211.2.1, bt211.2.2.1, bt211.2.2.2.1, bt211.2.2.2.2.1, bt211.2.2.2.2.2.1, bt211.2.2.2.2.2.2.1, bt211.2.2.2.2.2.2.2.1, bt211.2.2.2.2.2.2.2.2.1, bt211.2.2.2.2.2.2.2.2.2.1, bt211.2.2.2.2.2.2.2.2.2.2.1, bt211.2.2.2.2.2.2.2.2.2.2.2.1, bt211.2.2.2.2.2.2.2.2.2.2.2.2.2))) = some (r1, r2, r3, r4, r5, r6, r7, r8, r9, r10, r11, r12, r13) := h
 clear h
 replace H := Option.bind_eq_some_iff.mp H
 obtain ⟨⟨t211, t212, t213, t214, t215, t216, t217, t218, t221, t222, t225, t228, t229, t232⟩, A20, H⟩ := H
 replace H : (some (t211, t212, t213, t214, t215, t216, t217, t218, t221, t222, t225, t228, t232)) = some (r1, r2, r3, r4, r5, r6, r7, r8, r9, r10, r11, r12, r13) := H
 have A2 := Aside0.mk A20
 clear A20
 simp only [Option.some.injEq, Prod.mk.injEq] at H
 obtain ⟨rfl, rfl, rfl, rfl, rfl, rfl, rfl, rfl, rfl, rfl, rfl, rfl, rfl⟩ := H
 go_enter Try.func17, Try.ntmps17
 go_wp2_with (first | ((with_reducible refine gate_dst (N := 2) rfl ?_); refine box_event ?hg (N := 2) ?hd (cs := #[.bool false, .bool false, .bool false, .int .i64 0, .int .u16 0, .int .u32 0, .int .u32 0, .slice none 0 0, .int .u16 0, .slice none 0 0, .slice none 0 0, .int .i64 0]) (t := 45) ?hr ?_; (case hd => rfl); (case hg => rfl); (case hr => first | (go_simp; done) | (go_simp; rfl)); intro gb210 hg w3 hbox hb; have n0_ := bstE HB hb; have BK210 := Aside0.mk (hbox); have GW210 := geE hg HB; have GE210 := geE hg HB; clear HB; have HB := n0_; clear n0_; clear hb hbox hg) | ((with_reducible refine gate_callee (f := 32) rfl ?_); refine goesL_ (some 9) rfl rfl Try.func32 (by kernel_rfl) rfl #[.slice A0 l0.length c0] rfl (by (try simp only [List.map_toArray, List.map_cons, List.map_nil]); first | done | rfl | (simp only [List.length_drop, List.length_take]; rfl)) ?_; (with_reducible refine (packet_open.calls k (fun k_ => k_ < w.heap.size) _ _ l0 t211 t212 t213 t214 t215 t216 t217 t218 t221 t222 t225 t228 t229 t232 _ ?side1 A2.out).mono ?_); (case side1 => exact Kd.V_mk HC0.out (Kd.F_below (Kd.C_F (Kd.heap_int .u8) HR0.out) (pB HB))); rintro e w4 ⟨v219, v223, v226, v230, rfl, ho0, ho1, ho2, ho3, hb⟩; refine ⟨_, rfl, ?_⟩; have HO220 := Aside0.mk (Kd.R_lower (Kd.R_mono (ok' := fun k_ => True) ho0 (fun _ hk_ => trivial)) (below_size (pB HB))); have HO224 := Aside0.mk (Kd.R_lower (Kd.R_mono (ok' := fun k_ => some k_ ≠ (v226 : Value).ownBlock) ho1 (fun _ hk_ => hk_.2)) (below_size (pB HB))); have HO227 := Aside0.mk (Kd.R_lower (Kd.R_mono (ok' := fun k_ => some k_ ≠ (v223 : Value).ownBlock) ho2 (fun _ hk_ => hk_.2)) (below_size (pB HB))); have HO231 := Aside0.mk (Kd.V_lower (Kd.V_mono (ok' := fun k_ => some k_ ≠ (v219 : Value).ownBlock ∧ some k_ ≠ (v223 : Value).ownBlock ∧ some k_ ≠ (v226 : Value).ownBlock ∧ k_ ≠ gb210) ho3 (fun k_ hk_ => ⟨hk_.2.1, hk_.2.2.1, hk_.2.2.2, Or.elim hk_.1 (fun hs_ => fun e_ => Nat.not_le.2 hs_ (by rw [e_]; exact GW210.out)) (fun hn_ => (Kd.freshB (g := gb210) (o := .cells #[.bool false, .bool false, .bool false, .int .i64 0, .int .u16 0, .int .u32 0, .int .u32 0, .slice none 0 0, .int .u16 0, .slice none 0 0, .slice none 0 0, .int .i64 0] 45 (0, 0)) (pk BK210) k_ hn_))⟩)) (below_size (pB HB))); replace BK210 := bbE BK210 hb; replace HB := bstE HB hb; (try clear hb); (try clear hb2); (try clear hk); (try clear hi); (try clear ho0); (try clear ho1); (try clear ho2); (try clear ho3)) | ((with_reducible refine gate_dst (N := 4) rfl ?_); refine box_event ?hg (N := 4) ?hd (cs := #[.bool false, .bool false, .bool false, .int .i64 0, .int .u16 0, .int .u32 0, .int .u32 0, .slice none 0 0, .int .u16 0, .slice none 0 0, .slice none 0 0, .int .i64 0]) (t := 45) ?hr ?_; (case hd => rfl); (case hg => rfl); (case hr => first | (go_simp; done) | (go_simp; rfl)); intro gb233 hg w5 hbox hb; replace HO220 := rbE HO220 hb; replace HO224 := rbE HO224 hb; replace HO227 := rbE HO227 hb; replace HO231 := Aside0.mk (Kd.V_below (Kd.V_elderB (by (with_reducible repeat (first | apply Kd.V_alloc | apply Kd.V_drewN | apply Kd.V_drew)); exact HO231.out) gb233 (Nat.le_of_eq hg.symm)) hb); have n4_ := bbE BK210 hb; have n5_ := bstE HB hb; have BK233 := Aside0.mk (hbox); have GW233 := geE hg HB; have GE233 := geE hg HB; have NB210_233 := nlE hg BK210; have NB233_210 := ngE hg BK210; clear BK210; clear HB; have BK210 := n4_; have HB := n5_; clear n4_ n5_; clear hb hbox hg; have hnb6 := NB233_210.out; have hnc6 := NB210_233.out; obtain ⟨Z7_0, Z7_1, Z7_2, Z7_3, Z7_4, Z7_5, Z7_6, Z7_7, Z7_8, Z7_9, Z7_10, Z7_11, Y7_0, Y7_1, Y7_2, Y7_3, Y7_4, Y7_5, Y7_6, Y7_7, Y7_8, Y7_9, Y7_10, Y7_11⟩ := bc12 BK233.out; obtain ⟨Ao8, co8, eo8⟩ := Kd.R_slice HO220.out; subst eo8; obtain ⟨Ao9, co9, eo9⟩ := Kd.R_slice HO224.out; subst eo9; obtain ⟨Ao10, co10, eo10⟩ := Kd.R_slice HO227.out; subst eo10) | ((with_reducible refine gate_store (t := 45) (p := 4) rfl ?_); refine store_event (t := 45) (p := 4) (v := ?vo_w11) (w1 := ((((((((((((w5.setCell ⟨gb233, 0, none⟩ (.bool t211)).setCell ⟨gb233, 1, none⟩ (.bool t212)).setCell ⟨gb233, 2, none⟩ (.bool t213)).setCell ⟨gb233, 3, none⟩ (.int .i64 t214)).setCell ⟨gb233, 4, none⟩ (.int .u16 t215)).setCell ⟨gb233, 5, none⟩ (.int .u32 t216)).setCell ⟨gb233, 6, none⟩ (.int .u32 t217)).setCell ⟨gb233, 7, none⟩ (.slice Ao8 t218.length co8)).setCell ⟨gb233, 8, none⟩ (.int .u16 t221)).setCell ⟨gb233, 9, none⟩ (.slice Ao9 t222.length co9)).setCell ⟨gb233, 10, none⟩ (.slice Ao10 t225.length co10)).setCell ⟨gb233, 11, none⟩ (.int .i64 t228))) ?hg ?ho ?hn ?hr ?_; (case ho => rfl); (case hg => rfl); (case hn => rfl); (case hr => first | (go_simp; done) | (go_simp; rfl)); intro w11 hw; replace HO220 := rfE hw HO220 BK233; replace HO224 := rfE hw HO224 BK233; replace HO227 := rfE hw HO227 BK233; replace HO231 : Aside0 (Kd.V (Kd.int .u8) 5 w11 w.heap.size (fun k_ => some k_ ≠ (.slice Ao8 t218.length co8 : Value).ownBlock ∧ some k_ ≠ (.slice Ao9 t222.length co9 : Value).ownBlock ∧ some k_ ≠ (.slice Ao10 t225.length co10 : Value).ownBlock ∧ k_ ≠ gb210 ∧ k_ ≠ gb233) v230 t229) := ⟨Kd.V_mono (vfF hw (Kd.V_mono HO231.out (fun k_ hk => (⟨hk, hk.2⟩ : _ ∧ k_ ≠ gb233)))) (fun _ hk => ⟨hk.1.1.1, ⟨hk.1.1.2.1, ⟨hk.1.1.2.2.1, ⟨hk.1.1.2.2.2, hk.1.2⟩⟩⟩⟩)⟩; replace BK210 := bfE hw BK210 NB210_233; replace BK233 : Aside0 (w11.heap[gb233]? = some (.cells #[.bool t211, .bool t212, .bool t213, .int .i64 t214, .int .u16 t215, .int .u32 t216, .int .u32 t217, .slice Ao8 t218.length co8, .int .u16 t221, .slice Ao9 t222.length co9, .slice Ao10 t225.length co10, .int .i64 t228] 45 (0, 0))) := ⟨by rw [hw]; apply puts12; exact BK233.out⟩; replace HB := bsE hw HB GE233; clear hw; obtain ⟨Z12_0, Z12_1, Z12_2, Z12_3, Z12_4, Z12_5, Z12_6, Z12_7, Z12_8, Z12_9, Z12_10, Z12_11, Y12_0, Y12_1, Y12_2, Y12_3, Y12_4, Y12_5, Y12_6, Y12_7, Y12_8, Y12_9, Y12_10, Y12_11⟩ := bc12 BK233.out; obtain ⟨Z13_0, Z13_1, Z13_2, Z13_3, Z13_4, Z13_5, Z13_6, Z13_7, Z13_8, Z13_9, Z13_10, Z13_11, Y13_0, Y13_1, Y13_2, Y13_3, Y13_4, Y13_5, Y13_6, Y13_7, Y13_8, Y13_9, Y13_10, Y13_11⟩ := bc12 BK210.out) | ((with_reducible refine gate_store (t := 45) (p := 2) rfl ?_); refine store_event (t := 45) (p := 2) (v := ?vo_w14) (w1 := ((((((((((((w11.setCell ⟨gb210, 0, none⟩ (.bool t211)).setCell ⟨gb210, 1, none⟩ (.bool t212)).setCell ⟨gb210, 2, none⟩ (.bool t213)).setCell ⟨gb210, 3, none⟩ (.int .i64 t214)).setCell ⟨gb210, 4, none⟩ (.int .u16 t215)).setCell ⟨gb210, 5, none⟩ (.int .u32 t216)).setCell ⟨gb210, 6, none⟩ (.int .u32 t217)).setCell ⟨gb210, 7, none⟩ (.slice Ao8 t218.length co8)).setCell ⟨gb210, 8, none⟩ (.int .u16 t221)).setCell ⟨gb210, 9, none⟩ (.slice Ao9 t222.length co9)).setCell ⟨gb210, 10, none⟩ (.slice Ao10 t225.length co10)).setCell ⟨gb210, 11, none⟩ (.int .i64 t228))) ?hg ?ho ?hn ?hr ?_; (case ho => rfl); (case hg => rfl); (case hn => rfl); (case hr => first | (go_simp; done) | (go_simp; rfl)); intro w14 hw; replace HO220 := rfE hw HO220 BK210; replace HO224 := rfE hw HO224 BK210; replace HO227 := rfE hw HO227 BK210; replace HO231 : Aside0 (Kd.V (Kd.int .u8) 5 w14 w.heap.size (fun k_ => some k_ ≠ (.slice Ao8 t218.length co8 : Value).ownBlock ∧ some k_ ≠ (.slice Ao9 t222.length co9 : Value).ownBlock ∧ some k_ ≠ (.slice Ao10 t225.length co10 : Value).ownBlock ∧ k_ ≠ gb210 ∧ k_ ≠ gb233) v230 t229) := ⟨Kd.V_mono (vfF hw (Kd.V_mono HO231.out (fun k_ hk => (⟨hk, hk.2.2.2.1⟩ : _ ∧ k_ ≠ gb210)))) (fun _ hk => ⟨hk.1.1, ⟨hk.1.2.1, ⟨hk.1.2.2.1, ⟨hk.1.2.2.2.1, hk.1.2.2.2.2⟩⟩⟩⟩)⟩; replace BK210 : Aside0 (w14.heap[gb210]? = some (.cells #[.bool t211, .bool t212, .bool t213, .int .i64 t214, .int .u16 t215, .int .u32 t216, .int .u32 t217, .slice Ao8 t218.length co8, .int .u16 t221, .slice Ao9 t222.length co9, .slice Ao10 t225.length co10, .int .i64 t228] 45 (0, 0))) := ⟨by rw [hw]; apply puts12; exact BK210.out⟩; replace BK233 := bfE hw BK233 NB233_210; replace HB := bsE hw HB GE210; clear hw))
 refine bodyPost_ret (results_ct rfl _ _ gb210 45 #[.bool t211, .bool t212, .bool t213, .int .i64 t214, .int .u16 t215, .int .u32 t216, .int .u32 t217, .slice Ao8 t218.length co8, .int .u16 t221, .slice Ao9 t222.length co9, .slice Ao10 t225.length co10, .int .i64 t228] (0, 0) _ rfl (pk BK210) Try.underlying45 rfl (by kernel_rfl)) rfl ?_
 exact ⟨_, _, _, by first | rfl | (simp [errW_none, errW_some] <;> rfl) | (simp [*, errW_none, errW_some] <;> rfl), by (with_reducible repeat (first | apply Kd.R_alloc | apply Kd.R_drewN | apply Kd.R_drew)); exact HO220.out, by (with_reducible repeat (first | apply Kd.R_alloc | apply Kd.R_drewN | apply Kd.R_drew)); exact HO224.out, by (with_reducible repeat (first | apply Kd.R_alloc | apply Kd.R_drewN | apply Kd.R_drew)); exact HO227.out, by repeat (first | (with_reducible first | exact HB.out | apply below_alloc | apply pw_below_drewN | apply below_drew1 | refine below_set ?_ GE210.out | refine below_set ?_ GE233.out) | exact HB.out)⟩
def crossbarref05_Numbers.l0 : Nat → List Int → List Int → Int → Option (Bool)
 | 0, _, _, _ => none
 | k + 1, x0, x1, x5 => if x5 < (x0.length : Int) then (if 0 ≤ x5 then (if x5 < (x1.length : Int) then (if (rd x0 x5) = (rd x1 x5) then (crossbarref05_Numbers.l0 k x0 x1 (wrap64 (x5 + 1))) else (some false)) else (none)) else (none)) else (some true)
def crossbarref05_Numbers.f (k : Nat) (l0 : List Int) (l1 : List Int) : Option (Bool) := if (l0.length : Int) = (l1.length : Int) then (crossbarref05_Numbers.l0 k l0 l1 0) else (some false)
theorem crossbarref05_Numbers.mono_l : ∀ k, (∀ y0 y1 y2, LeO (crossbarref05_Numbers.l0 k y0 y1 y2) (crossbarref05_Numbers.l0 (k + 1) y0 y1 y2))
 | 0 => fun _ _ _ r h => by simp [crossbarref05_Numbers.l0] at h
 | k + 1 => by
  have ih0 := crossbarref05_Numbers.mono_l k
  intro y0 y1 y2
  unfold crossbarref05_Numbers.l0
  repeat' first
  | (with_reducible exact ih0 _ _ _)
  | (with_reducible exact LeO.refl _)
  | (with_reducible exact LeO.none _)
  | (with_reducible refine LeO.ite ?_ ?_)
  | (with_reducible refine LeO.bind ?_ (fun _ => ?_))
  | exact ih0 _ _ _
  | exact LeO.none _
  | refine LeO.ite ?_ ?_
  | refine LeO.bind ?_ (fun _ => ?_)
theorem crossbarref05_Numbers.mono : ∀ a0 a1 k, LeO (crossbarref05_Numbers.f k a0 a1) (crossbarref05_Numbers.f (k + 1) a0 a1) := by
 intro a0 a1 k
 have ih0 := crossbarref05_Numbers.mono_l k
 unfold crossbarref05_Numbers.f
 repeat' first
   | (with_reducible exact ih0 _ _ _)
   | (with_reducible exact LeO.refl _)
   | (with_reducible exact LeO.none _)
   | (with_reducible refine LeO.ite ?_ ?_)
   | (with_reducible refine LeO.bind ?_ (fun _ => ?_))
   | exact ih0 _ _ _
   | exact LeO.none _
   | refine LeO.ite ?_ ?_
   | refine LeO.bind ?_ (fun _ => ?_)
set_option maxHeartbeats 8000000 in
set_option maxRecDepth 100000 in
theorem crossbarref05_Numbers.calls (k : Nat) (A0 : Option Addr) (c0 : Nat) (l0 : List Int) (A1 : Option Addr) (c1 : Nat) (l1 : List Int) (r : Bool) (w : World) (hr0 : Kd.C (Kd.int .u32) w A0 l0.length l0) (hc0 : l0.length ≤ c0) (hr1 : Kd.C (Kd.int .u32) w A1 l1.length l1) (hc1 : l1.length ≤ c1) (h : crossbarref05_Numbers.f k l0 l1 = some r) :
  Calls Try.prog 50 #[.slice A0 l0.length c0, .slice A1 l1.length c1] w fun e w' => e = .returned (.bool r) ∧ Drawn0 w w' := by
 have HR0 := Aside0.mk hr0
 have HC0 := Aside0.mk hc0
 clear hr0 hc0
 have HR1 := Aside0.mk hr1
 have HC1 := Aside0.mk hc1
 clear hr1 hc1
 have H : (if (l0.length : Int) = (l1.length : Int) then (crossbarref05_Numbers.l0 k l0 l1 0) else (some false)) = some r := h
 clear h
 by_cases c3 : (l0.length : Int) = (l1.length : Int)
 ·rw [if_pos c3] at H
  have c3b0 : ((l0.length : Int) == (l1.length : Int)) = true := beq_iff_eq.mpr c3
  have c3b1 : ((l0.length : Int) != (l1.length : Int)) = false := bne_eq_false_iff_eq.mpr c3
  have c3b2 : (l0.length == l1.length) = true := by first | simpa using c3 | (simp at c3 ⊢; omega)
  clear c3
  have H' := Aside0.mk H
  clear H
  go_enter Try.func50, Try.ntmps50
  go_wp2
  repeat (go_quiet (fail); try go_wp2)
  go_loopg [5] k (fun kq v5 w' => ∃ (x5_1 : Int), v5 = .int .i64 x5_1 ∧ Aside0 (crossbarref05_Numbers.l0 kq l0 l1 x5_1 = some r) ∧ Aside0 (kq ≤ k) ∧ Drawn0 w w')
  case atStart => exact ⟨(0), (by first | rfl | (simp; done) | (simp [*]; done)), H', ⟨Nat.le_refl _⟩, by repeat (first | exact Drawn0.refl _ | apply Drawn0.step)⟩
  case round =>
   clear H'
   try clear c1
   try clear p2
   try clear c3
   try clear c3b0
   try clear c3b1
   try clear c3b2
   obtain ⟨x5_1, rfl, HA, HK1, ⟨m1, rfl⟩⟩ := hrel
   cases gk with
   | zero => exact absurd HA.out (by simp [crossbarref05_Numbers.l0])
   | succ k1 =>
    have H := HA.out
    clear HA
    simp only [crossbarref05_Numbers.l0] at H
    by_cases c4 : x5_1 < (l0.length : Int)
    ·rw [if_pos c4] at H
     have c4b0 : decide (x5_1 < (l0.length : Int)) = true := decide_eq_true c4
     clear c4
     by_cases c5 : 0 ≤ x5_1
     ·rw [if_pos c5] at H
      have c5b0 : decide (0 ≤ x5_1) = true := decide_eq_true c5
      clear c5
      by_cases c6 : x5_1 < (l1.length : Int)
      ·rw [if_pos c6] at H
       have c6b0 : decide (x5_1 < (l1.length : Int)) = true := decide_eq_true c6
       clear c6
       by_cases c7 : (rd l0 x5_1) = (rd l1 x5_1)
       ·rw [if_pos c7] at H
        have c7b0 : ((rd l0 x5_1) == (rd l1 x5_1)) = true := beq_iff_eq.mpr c7
        have c7b1 : ((rd l0 x5_1) != (rd l1 x5_1)) = false := bne_eq_false_iff_eq.mpr c7
        clear c7
        have H' := Aside0.mk H
        clear H
        have p526 : 0 ≤ (x5_1 : Int) := of_decide_eq_true (by first | (with_reducible assumption) | assumption)
        have q526 : x5_1 < (l0.length : Int) := of_decide_eq_true (by first | (with_reducible assumption) | assumption)
        obtain ⟨ad526, e526, hx526_0⟩ := Kd.at_int HR0.out x5_1 p526 q526
        cases e526
        replace p526 := eq_true p526
        replace q526 := eq_true q526
        have p527 : 0 ≤ (x5_1 : Int) := of_decide_eq_true (by first | (with_reducible assumption) | assumption)
        have q527 : x5_1 < (l1.length : Int) := of_decide_eq_true (by first | (with_reducible assumption) | assumption)
        obtain ⟨ad527, e527, hx527_0⟩ := Kd.at_int HR1.out x5_1 p527 q527
        cases e527
        replace p527 := eq_true p527
        replace q527 := eq_true q527
        go_wp2
        repeat (go_quiet (fail); try go_wp2)
        go_roundg k1
        case measure => have := HK1.out; omega
        case rel => exact ⟨(wrap64 (x5_1 + 1)), (by first | rfl | (simp; done) | (simp [*]; done)), H', ⟨by have := HK1.out; omega⟩, by repeat (first | exact Drawn0.refl _ | apply Drawn0.step)⟩
       rw [if_neg c7] at H
       have c7b0 : ((rd l0 x5_1) == (rd l1 x5_1)) = false := beq_eq_false_iff_ne.mpr c7
       have c7b1 : ((rd l0 x5_1) != (rd l1 x5_1)) = true := bne_iff_ne.mpr c7
       obtain rfl := Option.some.inj H
       have p526 : 0 ≤ (x5_1 : Int) := of_decide_eq_true (by first | (with_reducible assumption) | assumption)
       have q526 : x5_1 < (l0.length : Int) := of_decide_eq_true (by first | (with_reducible assumption) | assumption)
       obtain ⟨ad526, e526, hx526_0⟩ := Kd.at_int HR0.out x5_1 p526 q526
       cases e526
       replace p526 := eq_true p526
       replace q526 := eq_true q526
       have p527 : 0 ≤ (x5_1 : Int) := of_decide_eq_true (by first | (with_reducible assumption) | assumption)
       have q527 : x5_1 < (l1.length : Int) := of_decide_eq_true (by first | (with_reducible assumption) | assumption)
       obtain ⟨ad527, e527, hx527_0⟩ := Kd.at_int HR1.out x5_1 p527 q527
       cases e527
       replace p527 := eq_true p527
       replace q527 := eq_true q527
       go_wp2
       repeat (go_quiet (fail); try go_wp2)
       go_ret
       exact ⟨by first | rfl | (simp; done) | (simp [*]; done), by repeat (first | exact Drawn0.refl _ | apply Drawn0.step)⟩
      rw [if_neg c6] at H
      exact absurd H (by simp)
     rw [if_neg c5] at H
     exact absurd H (by simp)
    rw [if_neg c4] at H
    have c4b0 : decide (x5_1 < (l0.length : Int)) = false := decide_eq_false c4
    clear c4
    obtain rfl := Option.some.inj H
    go_wp2
    repeat (go_quiet (fail); try go_wp2)
    go_ret
    exact ⟨by first | rfl | (simp; done) | (simp [*]; done), by repeat (first | exact Drawn0.refl _ | apply Drawn0.step)⟩
 rw [if_neg c3] at H
 have c3b0 : ((l0.length : Int) == (l1.length : Int)) = false := beq_eq_false_iff_ne.mpr c3
 have c3b1 : ((l0.length : Int) != (l1.length : Int)) = true := bne_iff_ne.mpr c3
 have c3b2 : (l0.length == l1.length) = false := by first | simpa using c3 | (simp at c3 ⊢; omega)
 obtain rfl := Option.some.inj H
 go_enter Try.func50, Try.ntmps50
 go_wp2
 repeat (go_quiet (fail); try go_wp2)
 go_ret
 exact ⟨by first | rfl | (simp; done) | (simp [*]; done), by repeat (first | exact Drawn0.refl _ | apply Drawn0.step)⟩
def crossbarref05_Same.f (k : Nat) (a0_0 : Bool) (a0_1 : Bool) (a0_2 : Bool) (a0_3 : Int) (a0_4 : Int) (a0_5 : Int) (a0_6 : Int) (l0_7 : List Int) (a1_0 : Bool) (a1_1 : Bool) (a1_2 : Bool) (a1_3 : Int) (a1_4 : Int) (a1_5 : Int) (a1_6 : Int) (l1_7 : List Int) : Option (Bool) := if (a0_0 == a1_0) = true then (if (a0_1 == a1_1) = true then (if (a0_2 == a1_2) = true then (if a0_3 = a1_3 then (if a0_4 = a1_4 then (if a0_5 = a1_5 then (if a0_6 = a1_6 then ((crossbarref05_Numbers.f k l0_7 l1_7).bind fun t530 => (some t530)) else (some false)) else (some false)) else (some false)) else (some false)) else (some false)) else (some false)) else (some false)
theorem crossbarref05_Same.mono : ∀ a0 a1 a2 a3 a4 a5 a6 a7 a8 a9 a10 a11 a12 a13 a14 a15 k, LeO (crossbarref05_Same.f k a0 a1 a2 a3 a4 a5 a6 a7 a8 a9 a10 a11 a12 a13 a14 a15) (crossbarref05_Same.f (k + 1) a0 a1 a2 a3 a4 a5 a6 a7 a8 a9 a10 a11 a12 a13 a14 a15) := by
 intro a0 a1 a2 a3 a4 a5 a6 a7 a8 a9 a10 a11 a12 a13 a14 a15 k
 unfold crossbarref05_Same.f
 repeat' first
   | (with_reducible exact crossbarref05_Numbers.mono _ _ _)
   | (with_reducible exact LeO.refl _)
   | (with_reducible exact LeO.none _)
   | (with_reducible refine LeO.ite ?_ ?_)
   | (with_reducible refine LeO.bind ?_ (fun _ => ?_))
   | exact crossbarref05_Numbers.mono _ _ _
   | exact LeO.none _
   | refine LeO.ite ?_ ?_
   | refine LeO.bind ?_ (fun _ => ?_)
set_option maxHeartbeats 8000000 in
set_option maxRecDepth 100000 in
theorem crossbarref05_Same.calls (k : Nat) (a0_0 : Bool) (a0_1 : Bool) (a0_2 : Bool) (a0_3 : Int) (a0_4 : Int) (a0_5 : Int) (a0_6 : Int) (A0_7 : Option Addr) (c0_7 : Nat) (l0_7 : List Int) (a1_0 : Bool) (a1_1 : Bool) (a1_2 : Bool) (a1_3 : Int) (a1_4 : Int) (a1_5 : Int) (a1_6 : Int) (A1_7 : Option Addr) (c1_7 : Nat) (l1_7 : List Int) (r : Bool) (w : World) (hr0_7 : Kd.C (Kd.int .u32) w A0_7 l0_7.length l0_7) (hc0_7 : l0_7.length ≤ c0_7) (hr1_7 : Kd.C (Kd.int .u32) w A1_7 l1_7.length l1_7) (hc1_7 : l1_7.length ≤ c1_7) (h : crossbarref05_Same.f k a0_0 a0_1 a0_2 a0_3 a0_4 a0_5 a0_6 l0_7 a1_0 a1_1 a1_2 a1_3 a1_4 a1_5 a1_6 l1_7 = some r) :
  Calls Try.prog 33 #[.agg #[.bool a0_0, .bool a0_1, .bool a0_2, .int .i64 a0_3, .int .u16 a0_4, .int .u32 a0_5, .int .u32 a0_6, .slice A0_7 l0_7.length c0_7], .agg #[.bool a1_0, .bool a1_1, .bool a1_2, .int .i64 a1_3, .int .u16 a1_4, .int .u32 a1_5, .int .u32 a1_6, .slice A1_7 l1_7.length c1_7]] w fun e w' => e = .returned (.bool r) ∧ Below w.heap.size w w' := by
 have hu43 := Try.underlying43
 have HR0_7 := Aside0.mk hr0_7
 have HC0_7 := Aside0.mk hc0_7
 clear hr0_7 hc0_7
 have HR1_7 := Aside0.mk hr1_7
 have HC1_7 := Aside0.mk hc1_7
 clear hr1_7 hc1_7
 have HB := Aside0.mk (Below.refl w.heap.size w)
 have H : (if (a0_0 == a1_0) = true then (if (a0_1 == a1_1) = true then (if (a0_2 == a1_2) = true then (if a0_3 = a1_3 then (if a0_4 = a1_4 then (if a0_5 = a1_5 then (if a0_6 = a1_6 then ((crossbarref05_Numbers.f k l0_7 l1_7).bind fun t530 => (some t530)) else (some false)) else (some false)) else (some false)) else (some false)) else (some false)) else (some false)) else (some false)) = some r := h
 clear h
 by_cases c3 : (a0_0 == a1_0) = true
 ·rw [if_pos c3] at H
  have c3b0 : (a0_0 == a1_0) = true := c3
  (try (have c3b1 : decide (a0_0 = a1_0) = true := by simpa using c3))
  (try (have c3b2 : (a0_0 == a1_0) = true := by simpa using c3))
  clear c3
  by_cases c4 : (a0_1 == a1_1) = true
  ·rw [if_pos c4] at H
   have c4b0 : (a0_1 == a1_1) = true := c4
   (try (have c4b1 : decide (a0_1 = a1_1) = true := by simpa using c4))
   (try (have c4b2 : (a0_1 == a1_1) = true := by simpa using c4))
   clear c4
   by_cases c5 : (a0_2 == a1_2) = true
   ·rw [if_pos c5] at H
    have c5b0 : (a0_2 == a1_2) = true := c5
    (try (have c5b1 : decide (a0_2 = a1_2) = true := by simpa using c5))
    (try (have c5b2 : (a0_2 == a1_2) = true := by simpa using c5))
    clear c5
    by_cases c6 : a0_3 = a1_3
    ·rw [if_pos c6] at H
     have c6b0 : (a0_3 == a1_3) = true := beq_iff_eq.mpr c6
     have c6b1 : (a0_3 != a1_3) = false := bne_eq_false_iff_eq.mpr c6
     clear c6
     by_cases c7 : a0_4 = a1_4
     ·rw [if_pos c7] at H
      have c7b0 : (a0_4 == a1_4) = true := beq_iff_eq.mpr c7
      have c7b1 : (a0_4 != a1_4) = false := bne_eq_false_iff_eq.mpr c7
      clear c7
      by_cases c8 : a0_5 = a1_5
      ·rw [if_pos c8] at H
       have c8b0 : (a0_5 == a1_5) = true := beq_iff_eq.mpr c8
       have c8b1 : (a0_5 != a1_5) = false := bne_eq_false_iff_eq.mpr c8
       clear c8
       by_cases c9 : a0_6 = a1_6
       ·rw [if_pos c9] at H
        have c9b0 : (a0_6 == a1_6) = true := beq_iff_eq.mpr c9
        have c9b1 : (a0_6 != a1_6) = false := bne_eq_false_iff_eq.mpr c9
        clear c9
        replace H := Option.bind_eq_some_iff.mp H
        obtain ⟨t530, A100, H⟩ := H
        replace H : (some t530) = some r := H
        have A10 := Aside0.mk A100
        clear A100
        obtain rfl := Option.some.inj H
        go_enter Try.func33, Try.ntmps33
        go_wp2_with (first | ((with_reducible refine gate_dst (N := 2) rfl ?_); refine box_event ?hg (N := 2) ?hd (cs := #[.bool a0_0, .bool a0_1, .bool a0_2, .int .i64 a0_3, .int .u16 a0_4, .int .u32 a0_5, .int .u32 a0_6, .slice A0_7 l0_7.length c0_7]) (t := 43) ?hr ?_; (case hd => rfl); (case hg => rfl); (case hr => first | (go_simp; done) | (go_simp; rfl)); intro gb528 hg w11 hbox hb; have n0_ := bstE HB hb; have BK528 := Aside0.mk (hbox); have GW528 := geE hg HB; have GE528 := geE hg HB; clear HB; have HB := n0_; clear n0_; clear hb hbox hg) | ((with_reducible refine gate_dst (N := 3) rfl ?_); refine box_event ?hg (N := 3) ?hd (cs := #[.bool a1_0, .bool a1_1, .bool a1_2, .int .i64 a1_3, .int .u16 a1_4, .int .u32 a1_5, .int .u32 a1_6, .slice A1_7 l1_7.length c1_7]) (t := 43) ?hr ?_; (case hd => rfl); (case hg => rfl); (case hr => first | (go_simp; done) | (go_simp; rfl)); intro gb529 hg w12 hbox hb; have n0_ := bbE BK528 hb; have n1_ := bstE HB hb; have BK529 := Aside0.mk (hbox); have GW529 := geE hg HB; have GE529 := geE hg HB; have NB528_529 := nlE hg BK528; have NB529_528 := ngE hg BK528; clear BK528; clear HB; have BK528 := n0_; have HB := n1_; clear n0_ n1_; clear hb hbox hg; have hnb13 := NB528_529.out; have hnc13 := NB529_528.out; obtain ⟨Z14_0, Z14_1, Z14_2, Z14_3, Z14_4, Z14_5, Z14_6, Z14_7, Y14_0, Y14_1, Y14_2, Y14_3, Y14_4, Y14_5, Y14_6, Y14_7⟩ := bc8 BK528.out; obtain ⟨Z15_0, Z15_1, Z15_2, Z15_3, Z15_4, Z15_5, Z15_6, Z15_7, Y15_0, Y15_1, Y15_2, Y15_3, Y15_4, Y15_5, Y15_6, Y15_7⟩ := bc8 BK529.out) | (go_at_call 50; (with_reducible refine (crossbarref05_Numbers.calls k _ _ l0_7 _ _ l1_7 t530 _ ?side1 ?side2 ?side3 ?side4 A10.out).mono ?_); (case side1 => exact cbE HR0_7 HB); (case side2 => exact HC0_7.out); (case side3 => exact cbE HR1_7 HB); (case side4 => exact HC1_7.out); rintro e w' ⟨rfl, ⟨nd, rfl⟩⟩))
        go_ret
        exact ⟨by first | rfl | (simp [errW_none, errW_some] <;> rfl) | (simp [*, errW_none, errW_some] <;> rfl), by repeat (first | (with_reducible first | exact HB.out | apply below_alloc | apply pw_below_drewN | apply below_drew1 | refine below_set ?_ GE528.out | refine below_set ?_ GE529.out) | exact HB.out)⟩
       rw [if_neg c9] at H
       have c9b0 : (a0_6 == a1_6) = false := beq_eq_false_iff_ne.mpr c9
       have c9b1 : (a0_6 != a1_6) = true := bne_iff_ne.mpr c9
       obtain rfl := Option.some.inj H
       go_enter Try.func33, Try.ntmps33
       go_wp2_with (first | ((with_reducible refine gate_dst (N := 2) rfl ?_); refine box_event ?hg (N := 2) ?hd (cs := #[.bool a0_0, .bool a0_1, .bool a0_2, .int .i64 a0_3, .int .u16 a0_4, .int .u32 a0_5, .int .u32 a0_6, .slice A0_7 l0_7.length c0_7]) (t := 43) ?hr ?_; (case hd => rfl); (case hg => rfl); (case hr => first | (go_simp; done) | (go_simp; rfl)); intro gb528 hg w16 hbox hb; have n0_ := bstE HB hb; have BK528 := Aside0.mk (hbox); have GW528 := geE hg HB; have GE528 := geE hg HB; clear HB; have HB := n0_; clear n0_; clear hb hbox hg) | ((with_reducible refine gate_dst (N := 3) rfl ?_); refine box_event ?hg (N := 3) ?hd (cs := #[.bool a1_0, .bool a1_1, .bool a1_2, .int .i64 a1_3, .int .u16 a1_4, .int .u32 a1_5, .int .u32 a1_6, .slice A1_7 l1_7.length c1_7]) (t := 43) ?hr ?_; (case hd => rfl); (case hg => rfl); (case hr => first | (go_simp; done) | (go_simp; rfl)); intro gb529 hg w17 hbox hb; have n0_ := bbE BK528 hb; have n1_ := bstE HB hb; have BK529 := Aside0.mk (hbox); have GW529 := geE hg HB; have GE529 := geE hg HB; have NB528_529 := nlE hg BK528; have NB529_528 := ngE hg BK528; clear BK528; clear HB; have BK528 := n0_; have HB := n1_; clear n0_ n1_; clear hb hbox hg; have hnb18 := NB528_529.out; have hnc18 := NB529_528.out; obtain ⟨Z19_0, Z19_1, Z19_2, Z19_3, Z19_4, Z19_5, Z19_6, Z19_7, Y19_0, Y19_1, Y19_2, Y19_3, Y19_4, Y19_5, Y19_6, Y19_7⟩ := bc8 BK528.out; obtain ⟨Z20_0, Z20_1, Z20_2, Z20_3, Z20_4, Z20_5, Z20_6, Z20_7, Y20_0, Y20_1, Y20_2, Y20_3, Y20_4, Y20_5, Y20_6, Y20_7⟩ := bc8 BK529.out))
       go_ret
       exact ⟨by first | rfl | (simp [errW_none, errW_some] <;> rfl) | (simp [*, errW_none, errW_some] <;> rfl), by repeat (first | (with_reducible first | exact HB.out | apply below_alloc | apply pw_below_drewN | apply below_drew1 | refine below_set ?_ GE528.out | refine below_set ?_ GE529.out) | exact HB.out)⟩
      rw [if_neg c8] at H
      have c8b0 : (a0_5 == a1_5) = false := beq_eq_false_iff_ne.mpr c8
      have c8b1 : (a0_5 != a1_5) = true := bne_iff_ne.mpr c8
      obtain rfl := Option.some.inj H
      go_enter Try.func33, Try.ntmps33
      go_wp2_with (first | ((with_reducible refine gate_dst (N := 2) rfl ?_); refine box_event ?hg (N := 2) ?hd (cs := #[.bool a0_0, .bool a0_1, .bool a0_2, .int .i64 a0_3, .int .u16 a0_4, .int .u32 a0_5, .int .u32 a0_6, .slice A0_7 l0_7.length c0_7]) (t := 43) ?hr ?_; (case hd => rfl); (case hg => rfl); (case hr => first | (go_simp; done) | (go_simp; rfl)); intro gb528 hg w21 hbox hb; have n0_ := bstE HB hb; have BK528 := Aside0.mk (hbox); have GW528 := geE hg HB; have GE528 := geE hg HB; clear HB; have HB := n0_; clear n0_; clear hb hbox hg) | ((with_reducible refine gate_dst (N := 3) rfl ?_); refine box_event ?hg (N := 3) ?hd (cs := #[.bool a1_0, .bool a1_1, .bool a1_2, .int .i64 a1_3, .int .u16 a1_4, .int .u32 a1_5, .int .u32 a1_6, .slice A1_7 l1_7.length c1_7]) (t := 43) ?hr ?_; (case hd => rfl); (case hg => rfl); (case hr => first | (go_simp; done) | (go_simp; rfl)); intro gb529 hg w22 hbox hb; have n0_ := bbE BK528 hb; have n1_ := bstE HB hb; have BK529 := Aside0.mk (hbox); have GW529 := geE hg HB; have GE529 := geE hg HB; have NB528_529 := nlE hg BK528; have NB529_528 := ngE hg BK528; clear BK528; clear HB; have BK528 := n0_; have HB := n1_; clear n0_ n1_; clear hb hbox hg; have hnb23 := NB528_529.out; have hnc23 := NB529_528.out; obtain ⟨Z24_0, Z24_1, Z24_2, Z24_3, Z24_4, Z24_5, Z24_6, Z24_7, Y24_0, Y24_1, Y24_2, Y24_3, Y24_4, Y24_5, Y24_6, Y24_7⟩ := bc8 BK528.out; obtain ⟨Z25_0, Z25_1, Z25_2, Z25_3, Z25_4, Z25_5, Z25_6, Z25_7, Y25_0, Y25_1, Y25_2, Y25_3, Y25_4, Y25_5, Y25_6, Y25_7⟩ := bc8 BK529.out))
      go_ret
      exact ⟨by first | rfl | (simp [errW_none, errW_some] <;> rfl) | (simp [*, errW_none, errW_some] <;> rfl), by repeat (first | (with_reducible first | exact HB.out | apply below_alloc | apply pw_below_drewN | apply below_drew1 | refine below_set ?_ GE528.out | refine below_set ?_ GE529.out) | exact HB.out)⟩
     rw [if_neg c7] at H
     have c7b0 : (a0_4 == a1_4) = false := beq_eq_false_iff_ne.mpr c7
     have c7b1 : (a0_4 != a1_4) = true := bne_iff_ne.mpr c7
     obtain rfl := Option.some.inj H
     go_enter Try.func33, Try.ntmps33
     go_wp2_with (first | ((with_reducible refine gate_dst (N := 2) rfl ?_); refine box_event ?hg (N := 2) ?hd (cs := #[.bool a0_0, .bool a0_1, .bool a0_2, .int .i64 a0_3, .int .u16 a0_4, .int .u32 a0_5, .int .u32 a0_6, .slice A0_7 l0_7.length c0_7]) (t := 43) ?hr ?_; (case hd => rfl); (case hg => rfl); (case hr => first | (go_simp; done) | (go_simp; rfl)); intro gb528 hg w26 hbox hb; have n0_ := bstE HB hb; have BK528 := Aside0.mk (hbox); have GW528 := geE hg HB; have GE528 := geE hg HB; clear HB; have HB := n0_; clear n0_; clear hb hbox hg) | ((with_reducible refine gate_dst (N := 3) rfl ?_); refine box_event ?hg (N := 3) ?hd (cs := #[.bool a1_0, .bool a1_1, .bool a1_2, .int .i64 a1_3, .int .u16 a1_4, .int .u32 a1_5, .int .u32 a1_6, .slice A1_7 l1_7.length c1_7]) (t := 43) ?hr ?_; (case hd => rfl); (case hg => rfl); (case hr => first | (go_simp; done) | (go_simp; rfl)); intro gb529 hg w27 hbox hb; have n0_ := bbE BK528 hb; have n1_ := bstE HB hb; have BK529 := Aside0.mk (hbox); have GW529 := geE hg HB; have GE529 := geE hg HB; have NB528_529 := nlE hg BK528; have NB529_528 := ngE hg BK528; clear BK528; clear HB; have BK528 := n0_; have HB := n1_; clear n0_ n1_; clear hb hbox hg; have hnb28 := NB528_529.out; have hnc28 := NB529_528.out; obtain ⟨Z29_0, Z29_1, Z29_2, Z29_3, Z29_4, Z29_5, Z29_6, Z29_7, Y29_0, Y29_1, Y29_2, Y29_3, Y29_4, Y29_5, Y29_6, Y29_7⟩ := bc8 BK528.out; obtain ⟨Z30_0, Z30_1, Z30_2, Z30_3, Z30_4, Z30_5, Z30_6, Z30_7, Y30_0, Y30_1, Y30_2, Y30_3, Y30_4, Y30_5, Y30_6, Y30_7⟩ := bc8 BK529.out))
     go_ret
     exact ⟨by first | rfl | (simp [errW_none, errW_some] <;> rfl) | (simp [*, errW_none, errW_some] <;> rfl), by repeat (first | (with_reducible first | exact HB.out | apply below_alloc | apply pw_below_drewN | apply below_drew1 | refine below_set ?_ GE528.out | refine below_set ?_ GE529.out) | exact HB.out)⟩
    rw [if_neg c6] at H
    have c6b0 : (a0_3 == a1_3) = false := beq_eq_false_iff_ne.mpr c6
    have c6b1 : (a0_3 != a1_3) = true := bne_iff_ne.mpr c6
    obtain rfl := Option.some.inj H
    go_enter Try.func33, Try.ntmps33
    go_wp2_with (first | ((with_reducible refine gate_dst (N := 2) rfl ?_); refine box_event ?hg (N := 2) ?hd (cs := #[.bool a0_0, .bool a0_1, .bool a0_2, .int .i64 a0_3, .int .u16 a0_4, .int .u32 a0_5, .int .u32 a0_6, .slice A0_7 l0_7.length c0_7]) (t := 43) ?hr ?_; (case hd => rfl); (case hg => rfl); (case hr => first | (go_simp; done) | (go_simp; rfl)); intro gb528 hg w31 hbox hb; have n0_ := bstE HB hb; have BK528 := Aside0.mk (hbox); have GW528 := geE hg HB; have GE528 := geE hg HB; clear HB; have HB := n0_; clear n0_; clear hb hbox hg) | ((with_reducible refine gate_dst (N := 3) rfl ?_); refine box_event ?hg (N := 3) ?hd (cs := #[.bool a1_0, .bool a1_1, .bool a1_2, .int .i64 a1_3, .int .u16 a1_4, .int .u32 a1_5, .int .u32 a1_6, .slice A1_7 l1_7.length c1_7]) (t := 43) ?hr ?_; (case hd => rfl); (case hg => rfl); (case hr => first | (go_simp; done) | (go_simp; rfl)); intro gb529 hg w32 hbox hb; have n0_ := bbE BK528 hb; have n1_ := bstE HB hb; have BK529 := Aside0.mk (hbox); have GW529 := geE hg HB; have GE529 := geE hg HB; have NB528_529 := nlE hg BK528; have NB529_528 := ngE hg BK528; clear BK528; clear HB; have BK528 := n0_; have HB := n1_; clear n0_ n1_; clear hb hbox hg; have hnb33 := NB528_529.out; have hnc33 := NB529_528.out; obtain ⟨Z34_0, Z34_1, Z34_2, Z34_3, Z34_4, Z34_5, Z34_6, Z34_7, Y34_0, Y34_1, Y34_2, Y34_3, Y34_4, Y34_5, Y34_6, Y34_7⟩ := bc8 BK528.out; obtain ⟨Z35_0, Z35_1, Z35_2, Z35_3, Z35_4, Z35_5, Z35_6, Z35_7, Y35_0, Y35_1, Y35_2, Y35_3, Y35_4, Y35_5, Y35_6, Y35_7⟩ := bc8 BK529.out))
    go_ret
    exact ⟨by first | rfl | (simp [errW_none, errW_some] <;> rfl) | (simp [*, errW_none, errW_some] <;> rfl), by repeat (first | (with_reducible first | exact HB.out | apply below_alloc | apply pw_below_drewN | apply below_drew1 | refine below_set ?_ GE528.out | refine below_set ?_ GE529.out) | exact HB.out)⟩
   rw [if_neg c5] at H
   have c5b0 : (a0_2 == a1_2) = false := by simpa using c5
   (try (have c5b1 : decide (a0_2 = a1_2) = false := by simpa using c5))
   (try (have c5b2 : (a0_2 == a1_2) = false := by simpa using c5))
   (try (have c5b3 : ¬ (a0_2 = a1_2) := by simpa using c5))
   clear c5
   obtain rfl := Option.some.inj H
   go_enter Try.func33, Try.ntmps33
   go_wp2_with (first | ((with_reducible refine gate_dst (N := 2) rfl ?_); refine box_event ?hg (N := 2) ?hd (cs := #[.bool a0_0, .bool a0_1, .bool a0_2, .int .i64 a0_3, .int .u16 a0_4, .int .u32 a0_5, .int .u32 a0_6, .slice A0_7 l0_7.length c0_7]) (t := 43) ?hr ?_; (case hd => rfl); (case hg => rfl); (case hr => first | (go_simp; done) | (go_simp; rfl)); intro gb528 hg w36 hbox hb; have n0_ := bstE HB hb; have BK528 := Aside0.mk (hbox); have GW528 := geE hg HB; have GE528 := geE hg HB; clear HB; have HB := n0_; clear n0_; clear hb hbox hg) | ((with_reducible refine gate_dst (N := 3) rfl ?_); refine box_event ?hg (N := 3) ?hd (cs := #[.bool a1_0, .bool a1_1, .bool a1_2, .int .i64 a1_3, .int .u16 a1_4, .int .u32 a1_5, .int .u32 a1_6, .slice A1_7 l1_7.length c1_7]) (t := 43) ?hr ?_; (case hd => rfl); (case hg => rfl); (case hr => first | (go_simp; done) | (go_simp; rfl)); intro gb529 hg w37 hbox hb; have n0_ := bbE BK528 hb; have n1_ := bstE HB hb; have BK529 := Aside0.mk (hbox); have GW529 := geE hg HB; have GE529 := geE hg HB; have NB528_529 := nlE hg BK528; have NB529_528 := ngE hg BK528; clear BK528; clear HB; have BK528 := n0_; have HB := n1_; clear n0_ n1_; clear hb hbox hg; have hnb38 := NB528_529.out; have hnc38 := NB529_528.out; obtain ⟨Z39_0, Z39_1, Z39_2, Z39_3, Z39_4, Z39_5, Z39_6, Z39_7, Y39_0, Y39_1, Y39_2, Y39_3, Y39_4, Y39_5, Y39_6, Y39_7⟩ := bc8 BK528.out; obtain ⟨Z40_0, Z40_1, Z40_2, Z40_3, Z40_4, Z40_5, Z40_6, Z40_7, Y40_0, Y40_1, Y40_2, Y40_3, Y40_4, Y40_5, Y40_6, Y40_7⟩ := bc8 BK529.out))
   go_ret
   exact ⟨by first | rfl | (simp [errW_none, errW_some] <;> rfl) | (simp [*, errW_none, errW_some] <;> rfl), by repeat (first | (with_reducible first | exact HB.out | apply below_alloc | apply pw_below_drewN | apply below_drew1 | refine below_set ?_ GE528.out | refine below_set ?_ GE529.out) | exact HB.out)⟩
  rw [if_neg c4] at H
  have c4b0 : (a0_1 == a1_1) = false := by simpa using c4
  (try (have c4b1 : decide (a0_1 = a1_1) = false := by simpa using c4))
  (try (have c4b2 : (a0_1 == a1_1) = false := by simpa using c4))
  (try (have c4b3 : ¬ (a0_1 = a1_1) := by simpa using c4))
  clear c4
  obtain rfl := Option.some.inj H
  go_enter Try.func33, Try.ntmps33
  go_wp2_with (first | ((with_reducible refine gate_dst (N := 2) rfl ?_); refine box_event ?hg (N := 2) ?hd (cs := #[.bool a0_0, .bool a0_1, .bool a0_2, .int .i64 a0_3, .int .u16 a0_4, .int .u32 a0_5, .int .u32 a0_6, .slice A0_7 l0_7.length c0_7]) (t := 43) ?hr ?_; (case hd => rfl); (case hg => rfl); (case hr => first | (go_simp; done) | (go_simp; rfl)); intro gb528 hg w41 hbox hb; have n0_ := bstE HB hb; have BK528 := Aside0.mk (hbox); have GW528 := geE hg HB; have GE528 := geE hg HB; clear HB; have HB := n0_; clear n0_; clear hb hbox hg) | ((with_reducible refine gate_dst (N := 3) rfl ?_); refine box_event ?hg (N := 3) ?hd (cs := #[.bool a1_0, .bool a1_1, .bool a1_2, .int .i64 a1_3, .int .u16 a1_4, .int .u32 a1_5, .int .u32 a1_6, .slice A1_7 l1_7.length c1_7]) (t := 43) ?hr ?_; (case hd => rfl); (case hg => rfl); (case hr => first | (go_simp; done) | (go_simp; rfl)); intro gb529 hg w42 hbox hb; have n0_ := bbE BK528 hb; have n1_ := bstE HB hb; have BK529 := Aside0.mk (hbox); have GW529 := geE hg HB; have GE529 := geE hg HB; have NB528_529 := nlE hg BK528; have NB529_528 := ngE hg BK528; clear BK528; clear HB; have BK528 := n0_; have HB := n1_; clear n0_ n1_; clear hb hbox hg; have hnb43 := NB528_529.out; have hnc43 := NB529_528.out; obtain ⟨Z44_0, Z44_1, Z44_2, Z44_3, Z44_4, Z44_5, Z44_6, Z44_7, Y44_0, Y44_1, Y44_2, Y44_3, Y44_4, Y44_5, Y44_6, Y44_7⟩ := bc8 BK528.out; obtain ⟨Z45_0, Z45_1, Z45_2, Z45_3, Z45_4, Z45_5, Z45_6, Z45_7, Y45_0, Y45_1, Y45_2, Y45_3, Y45_4, Y45_5, Y45_6, Y45_7⟩ := bc8 BK529.out))
  go_ret
  exact ⟨by first | rfl | (simp [errW_none, errW_some] <;> rfl) | (simp [*, errW_none, errW_some] <;> rfl), by repeat (first | (with_reducible first | exact HB.out | apply below_alloc | apply pw_below_drewN | apply below_drew1 | refine below_set ?_ GE528.out | refine below_set ?_ GE529.out) | exact HB.out)⟩
 rw [if_neg c3] at H
 have c3b0 : (a0_0 == a1_0) = false := by simpa using c3
 (try (have c3b1 : decide (a0_0 = a1_0) = false := by simpa using c3))
 (try (have c3b2 : (a0_0 == a1_0) = false := by simpa using c3))
 (try (have c3b3 : ¬ (a0_0 = a1_0) := by simpa using c3))
 clear c3
 obtain rfl := Option.some.inj H
 go_enter Try.func33, Try.ntmps33
 go_wp2_with (first | ((with_reducible refine gate_dst (N := 2) rfl ?_); refine box_event ?hg (N := 2) ?hd (cs := #[.bool a0_0, .bool a0_1, .bool a0_2, .int .i64 a0_3, .int .u16 a0_4, .int .u32 a0_5, .int .u32 a0_6, .slice A0_7 l0_7.length c0_7]) (t := 43) ?hr ?_; (case hd => rfl); (case hg => rfl); (case hr => first | (go_simp; done) | (go_simp; rfl)); intro gb528 hg w46 hbox hb; have n0_ := bstE HB hb; have BK528 := Aside0.mk (hbox); have GW528 := geE hg HB; have GE528 := geE hg HB; clear HB; have HB := n0_; clear n0_; clear hb hbox hg) | ((with_reducible refine gate_dst (N := 3) rfl ?_); refine box_event ?hg (N := 3) ?hd (cs := #[.bool a1_0, .bool a1_1, .bool a1_2, .int .i64 a1_3, .int .u16 a1_4, .int .u32 a1_5, .int .u32 a1_6, .slice A1_7 l1_7.length c1_7]) (t := 43) ?hr ?_; (case hd => rfl); (case hg => rfl); (case hr => first | (go_simp; done) | (go_simp; rfl)); intro gb529 hg w47 hbox hb; have n0_ := bbE BK528 hb; have n1_ := bstE HB hb; have BK529 := Aside0.mk (hbox); have GW529 := geE hg HB; have GE529 := geE hg HB; have NB528_529 := nlE hg BK528; have NB529_528 := ngE hg BK528; clear BK528; clear HB; have BK528 := n0_; have HB := n1_; clear n0_ n1_; clear hb hbox hg; have hnb48 := NB528_529.out; have hnc48 := NB529_528.out; obtain ⟨Z49_0, Z49_1, Z49_2, Z49_3, Z49_4, Z49_5, Z49_6, Z49_7, Y49_0, Y49_1, Y49_2, Y49_3, Y49_4, Y49_5, Y49_6, Y49_7⟩ := bc8 BK528.out; obtain ⟨Z50_0, Z50_1, Z50_2, Z50_3, Z50_4, Z50_5, Z50_6, Z50_7, Y50_0, Y50_1, Y50_2, Y50_3, Y50_4, Y50_5, Y50_6, Y50_7⟩ := bc8 BK529.out))
 go_ret
 exact ⟨by first | rfl | (simp [errW_none, errW_some] <;> rfl) | (simp [*, errW_none, errW_some] <;> rfl), by repeat (first | (with_reducible first | exact HB.out | apply below_alloc | apply pw_below_drewN | apply below_drew1 | refine below_set ?_ GE528.out | refine below_set ?_ GE529.out) | exact HB.out)⟩
def crossbarref06_Same.f (k : Nat) (a0_0 : Bool) (a0_1 : Bool) (a0_2 : Bool) (a0_3 : Int) (a0_4 : Int) (a0_5 : Int) (a0_6 : Int) (l0_7 : List Int) (a0_8 : Int) (l0_9 : List Int) (l0_10 : List Int) (a0_11 : Int) (a1_0 : Bool) (a1_1 : Bool) (a1_2 : Bool) (a1_3 : Int) (a1_4 : Int) (a1_5 : Int) (a1_6 : Int) (l1_7 : List Int) (a1_8 : Int) (l1_9 : List Int) (l1_10 : List Int) (a1_11 : Int) : Option (Bool) := (crossbarref05_Same.f k a0_0 a0_1 a0_2 a0_3 a0_4 a0_5 a0_6 l0_7 a1_0 a1_1 a1_2 a1_3 a1_4 a1_5 a1_6 l1_7).bind fun t533 => (if t533 = true then (if a0_8 = a1_8 then (if (strOfNums l0_9).toList = (strOfNums l1_9).toList then (if (strOfNums l0_10).toList = (strOfNums l1_10).toList then (some (a0_11 == a1_11)) else (some false)) else (some false)) else (some false)) else (some false))
theorem crossbarref06_Same.mono : ∀ a0 a1 a2 a3 a4 a5 a6 a7 a8 a9 a10 a11 a12 a13 a14 a15 a16 a17 a18 a19 a20 a21 a22 a23 k, LeO (crossbarref06_Same.f k a0 a1 a2 a3 a4 a5 a6 a7 a8 a9 a10 a11 a12 a13 a14 a15 a16 a17 a18 a19 a20 a21 a22 a23) (crossbarref06_Same.f (k + 1) a0 a1 a2 a3 a4 a5 a6 a7 a8 a9 a10 a11 a12 a13 a14 a15 a16 a17 a18 a19 a20 a21 a22 a23) := by
 intro a0 a1 a2 a3 a4 a5 a6 a7 a8 a9 a10 a11 a12 a13 a14 a15 a16 a17 a18 a19 a20 a21 a22 a23 k
 unfold crossbarref06_Same.f
 repeat' first
   | (with_reducible exact crossbarref05_Same.mono _ _ _ _ _ _ _ _ _ _ _ _ _ _ _ _ _)
   | (with_reducible exact LeO.refl _)
   | (with_reducible exact LeO.none _)
   | (with_reducible refine LeO.ite ?_ ?_)
   | (with_reducible refine LeO.bind ?_ (fun _ => ?_))
   | exact crossbarref05_Same.mono _ _ _ _ _ _ _ _ _ _ _ _ _ _ _ _ _
   | exact LeO.none _
   | refine LeO.ite ?_ ?_
   | refine LeO.bind ?_ (fun _ => ?_)
set_option maxHeartbeats 8000000 in
set_option maxRecDepth 100000 in
theorem crossbarref06_Same.calls (k : Nat) (a0_0 : Bool) (a0_1 : Bool) (a0_2 : Bool) (a0_3 : Int) (a0_4 : Int) (a0_5 : Int) (a0_6 : Int) (A0_7 : Option Addr) (c0_7 : Nat) (l0_7 : List Int) (a0_8 : Int) (A0_9 : Option Addr) (c0_9 : Nat) (l0_9 : List Int) (A0_10 : Option Addr) (c0_10 : Nat) (l0_10 : List Int) (a0_11 : Int) (a1_0 : Bool) (a1_1 : Bool) (a1_2 : Bool) (a1_3 : Int) (a1_4 : Int) (a1_5 : Int) (a1_6 : Int) (A1_7 : Option Addr) (c1_7 : Nat) (l1_7 : List Int) (a1_8 : Int) (A1_9 : Option Addr) (c1_9 : Nat) (l1_9 : List Int) (A1_10 : Option Addr) (c1_10 : Nat) (l1_10 : List Int) (a1_11 : Int) (r : Bool) (w : World) (hr0_7 : Kd.C (Kd.int .u32) w A0_7 l0_7.length l0_7) (hc0_7 : l0_7.length ≤ c0_7) (hr0_9 : Kd.C (Kd.int .u8) w A0_9 l0_9.length l0_9) (hc0_9 : l0_9.length ≤ c0_9) (hr0_10 : Kd.C (Kd.int .u8) w A0_10 l0_10.length l0_10) (hc0_10 : l0_10.length ≤ c0_10) (hr1_7 : Kd.C (Kd.int .u32) w A1_7 l1_7.length l1_7) (hc1_7 : l1_7.length ≤ c1_7) (hr1_9 : Kd.C (Kd.int .u8) w A1_9 l1_9.length l1_9) (hc1_9 : l1_9.length ≤ c1_9) (hr1_10 : Kd.C (Kd.int .u8) w A1_10 l1_10.length l1_10) (hc1_10 : l1_10.length ≤ c1_10) (h : crossbarref06_Same.f k a0_0 a0_1 a0_2 a0_3 a0_4 a0_5 a0_6 l0_7 a0_8 l0_9 l0_10 a0_11 a1_0 a1_1 a1_2 a1_3 a1_4 a1_5 a1_6 l1_7 a1_8 l1_9 l1_10 a1_11 = some r) :
  Calls Try.prog 18 #[.agg #[.bool a0_0, .bool a0_1, .bool a0_2, .int .i64 a0_3, .int .u16 a0_4, .int .u32 a0_5, .int .u32 a0_6, .slice A0_7 l0_7.length c0_7, .int .u16 a0_8, .slice A0_9 l0_9.length c0_9, .slice A0_10 l0_10.length c0_10, .int .i64 a0_11], .agg #[.bool a1_0, .bool a1_1, .bool a1_2, .int .i64 a1_3, .int .u16 a1_4, .int .u32 a1_5, .int .u32 a1_6, .slice A1_7 l1_7.length c1_7, .int .u16 a1_8, .slice A1_9 l1_9.length c1_9, .slice A1_10 l1_10.length c1_10, .int .i64 a1_11]] w fun e w' => e = .returned (.bool r) ∧ Below w.heap.size w w' := by
 have hu45 := Try.underlying45
 have hu43 := Try.underlying43
 have HR0_7 := Aside0.mk hr0_7
 have HC0_7 := Aside0.mk hc0_7
 clear hr0_7 hc0_7
 have HR0_9 := Aside0.mk hr0_9
 have HC0_9 := Aside0.mk hc0_9
 clear hr0_9 hc0_9
 have HR0_10 := Aside0.mk hr0_10
 have HC0_10 := Aside0.mk hc0_10
 clear hr0_10 hc0_10
 have HR1_7 := Aside0.mk hr1_7
 have HC1_7 := Aside0.mk hc1_7
 clear hr1_7 hc1_7
 have HR1_9 := Aside0.mk hr1_9
 have HC1_9 := Aside0.mk hc1_9
 clear hr1_9 hc1_9
 have HR1_10 := Aside0.mk hr1_10
 have HC1_10 := Aside0.mk hc1_10
 clear hr1_10 hc1_10
 have HB := Aside0.mk (Below.refl w.heap.size w)
 have H : ((crossbarref05_Same.f k a0_0 a0_1 a0_2 a0_3 a0_4 a0_5 a0_6 l0_7 a1_0 a1_1 a1_2 a1_3 a1_4 a1_5 a1_6 l1_7).bind fun t533 => (if t533 = true then (if a0_8 = a1_8 then (if (strOfNums l0_9).toList = (strOfNums l1_9).toList then (if (strOfNums l0_10).toList = (strOfNums l1_10).toList then (some (a0_11 == a1_11)) else (some false)) else (some false)) else (some false)) else (some false))) = some r := h
 clear h
 replace H := Option.bind_eq_some_iff.mp H
 obtain ⟨t533, A30, H⟩ := H
 replace H : (if t533 = true then (if a0_8 = a1_8 then (if (strOfNums l0_9).toList = (strOfNums l1_9).toList then (if (strOfNums l0_10).toList = (strOfNums l1_10).toList then (some (a0_11 == a1_11)) else (some false)) else (some false)) else (some false)) else (some false)) = some r := H
 have A3 := Aside0.mk A30
 clear A30
 by_cases c4 : t533 = true
 ·subst c4
  have H1 : (if a0_8 = a1_8 then (if (strOfNums l0_9).toList = (strOfNums l1_9).toList then (if (strOfNums l0_10).toList = (strOfNums l1_10).toList then (some (a0_11 == a1_11)) else (some false)) else (some false)) else (some false)) = some r := by rw [if_pos rfl] at H; exact H
  clear H
  have H := H1
  clear H1
  by_cases c5 : a0_8 = a1_8
  ·rw [if_pos c5] at H
   have c5b0 : (a0_8 == a1_8) = true := beq_iff_eq.mpr c5
   have c5b1 : (a0_8 != a1_8) = false := bne_eq_false_iff_eq.mpr c5
   clear c5
   by_cases c6 : (strOfNums l0_9).toList = (strOfNums l1_9).toList
   ·rw [if_pos c6] at H
    have c6b0 : ((strOfNums l0_9).toList == (strOfNums l1_9).toList) = true := beq_iff_eq.mpr c6
    have c6b1 : ((strOfNums l0_9).toList != (strOfNums l1_9).toList) = false := bne_eq_false_iff_eq.mpr c6
    clear c6
    by_cases c7 : (strOfNums l0_10).toList = (strOfNums l1_10).toList
    ·rw [if_pos c7] at H
     have c7b0 : ((strOfNums l0_10).toList == (strOfNums l1_10).toList) = true := beq_iff_eq.mpr c7
     have c7b1 : ((strOfNums l0_10).toList != (strOfNums l1_10).toList) = false := bne_eq_false_iff_eq.mpr c7
     clear c7
     obtain rfl := Option.some.inj H
     go_enter Try.func18, Try.ntmps18
     go_wp2_with (first | ((with_reducible refine gate_dst (N := 2) rfl ?_); refine box_event ?hg (N := 2) ?hd (cs := #[.bool a0_0, .bool a0_1, .bool a0_2, .int .i64 a0_3, .int .u16 a0_4, .int .u32 a0_5, .int .u32 a0_6, .slice A0_7 l0_7.length c0_7, .int .u16 a0_8, .slice A0_9 l0_9.length c0_9, .slice A0_10 l0_10.length c0_10, .int .i64 a0_11]) (t := 45) ?hr ?_; (case hd => rfl); (case hg => rfl); (case hr => first | (go_simp; done) | (go_simp; rfl)); intro gb531 hg w8 hbox hb; have n0_ := bstE HB hb; have BK531 := Aside0.mk (hbox); have GW531 := geE hg HB; have GE531 := geE hg HB; clear HB; have HB := n0_; clear n0_; clear hb hbox hg) | ((with_reducible refine gate_dst (N := 3) rfl ?_); refine box_event ?hg (N := 3) ?hd (cs := #[.bool a1_0, .bool a1_1, .bool a1_2, .int .i64 a1_3, .int .u16 a1_4, .int .u32 a1_5, .int .u32 a1_6, .slice A1_7 l1_7.length c1_7, .int .u16 a1_8, .slice A1_9 l1_9.length c1_9, .slice A1_10 l1_10.length c1_10, .int .i64 a1_11]) (t := 45) ?hr ?_; (case hd => rfl); (case hg => rfl); (case hr => first | (go_simp; done) | (go_simp; rfl)); intro gb532 hg w9 hbox hb; have n0_ := bbE BK531 hb; have n1_ := bstE HB hb; have BK532 := Aside0.mk (hbox); have GW532 := geE hg HB; have GE532 := geE hg HB; have NB531_532 := nlE hg BK531; have NB532_531 := ngE hg BK531; clear BK531; clear HB; have BK531 := n0_; have HB := n1_; clear n0_ n1_; clear hb hbox hg; have hnb10 := NB531_532.out; have hnc10 := NB532_531.out; obtain ⟨Z11_0, Z11_1, Z11_2, Z11_3, Z11_4, Z11_5, Z11_6, Z11_7, Z11_8, Z11_9, Z11_10, Z11_11, Y11_0, Y11_1, Y11_2, Y11_3, Y11_4, Y11_5, Y11_6, Y11_7, Y11_8, Y11_9, Y11_10, Y11_11⟩ := bc12 BK531.out; obtain ⟨Z12_0, Z12_1, Z12_2, Z12_3, Z12_4, Z12_5, Z12_6, Z12_7, Z12_8, Z12_9, Z12_10, Z12_11, Y12_0, Y12_1, Y12_2, Y12_3, Y12_4, Y12_5, Y12_6, Y12_7, Y12_8, Y12_9, Y12_10, Y12_11⟩ := bc12 BK532.out) | ((with_reducible refine gate_callee (f := 33) rfl ?_); refine goesL_ (some 9) rfl rfl Try.func33 (by kernel_rfl) rfl #[.agg #[.bool a0_0, .bool a0_1, .bool a0_2, .int .i64 a0_3, .int .u16 a0_4, .int .u32 a0_5, .int .u32 a0_6, .slice A0_7 l0_7.length c0_7], .agg #[.bool a1_0, .bool a1_1, .bool a1_2, .int .i64 a1_3, .int .u16 a1_4, .int .u32 a1_5, .int .u32 a1_6, .slice A1_7 l1_7.length c1_7]] rfl (by (try simp only [List.map_toArray, List.map_cons, List.map_nil]); first | done | rfl | (simp only [List.length_drop, List.length_take]; rfl)) ?_; (with_reducible refine (crossbarref05_Same.calls k a0_0 a0_1 a0_2 a0_3 a0_4 a0_5 a0_6 _ _ l0_7 a1_0 a1_1 a1_2 a1_3 a1_4 a1_5 a1_6 _ _ l1_7 true _ ?side1 ?side2 ?side3 ?side4 A3.out).mono ?_); (case side1 => exact cbE HR0_7 HB); (case side2 => exact HC0_7.out); (case side3 => exact cbE HR1_7 HB); (case side4 => exact HC1_7.out); rintro e w13 ⟨rfl, hb⟩; refine ⟨_, rfl, ?_⟩; replace BK531 := bbE BK531 hb; replace BK532 := bbE BK532 hb; replace HB := bstE HB hb; (try clear hb); (try clear hb2); (try clear hk); (try clear hi); obtain ⟨Z14_0, Z14_1, Z14_2, Z14_3, Z14_4, Z14_5, Z14_6, Z14_7, Z14_8, Z14_9, Z14_10, Z14_11, Y14_0, Y14_1, Y14_2, Y14_3, Y14_4, Y14_5, Y14_6, Y14_7, Y14_8, Y14_9, Y14_10, Y14_11⟩ := bc12 BK531.out; obtain ⟨Z15_0, Z15_1, Z15_2, Z15_3, Z15_4, Z15_5, Z15_6, Z15_7, Z15_8, Z15_9, Z15_10, Z15_11, Y15_0, Y15_1, Y15_2, Y15_3, Y15_4, Y15_5, Y15_6, Y15_7, Y15_8, Y15_9, Y15_10, Y15_11⟩ := bc12 BK532.out; have hcv16 := Kd.C_string (P := Try.prog) (A := A0_9) (c := c0_9) Try.underlying22 Try.underlying5 Try.underlying9 (Kd.C_below HR0_9.out HB.out); have hcv17 := Kd.C_string (P := Try.prog) (A := A1_9) (c := c1_9) Try.underlying22 Try.underlying5 Try.underlying9 (Kd.C_below HR1_9.out HB.out); have hcv18 := Kd.C_string (P := Try.prog) (A := A0_10) (c := c0_10) Try.underlying22 Try.underlying5 Try.underlying9 (Kd.C_below HR0_10.out HB.out); have hcv19 := Kd.C_string (P := Try.prog) (A := A1_10) (c := c1_10) Try.underlying22 Try.underlying5 Try.underlying9 (Kd.C_below HR1_10.out HB.out)))
     go_ret
     exact ⟨by first | rfl | (simp [errW_none, errW_some] <;> rfl) | (simp [*, errW_none, errW_some] <;> rfl), by repeat (first | (with_reducible first | exact HB.out | apply below_alloc | apply pw_below_drewN | apply below_drew1 | refine below_set ?_ GE531.out | refine below_set ?_ GE532.out) | exact HB.out)⟩
    rw [if_neg c7] at H
    have c7b0 : ((strOfNums l0_10).toList == (strOfNums l1_10).toList) = false := beq_eq_false_iff_ne.mpr c7
    have c7b1 : ((strOfNums l0_10).toList != (strOfNums l1_10).toList) = true := bne_iff_ne.mpr c7
    obtain rfl := Option.some.inj H
    go_enter Try.func18, Try.ntmps18
    go_wp2_with (first | ((with_reducible refine gate_dst (N := 2) rfl ?_); refine box_event ?hg (N := 2) ?hd (cs := #[.bool a0_0, .bool a0_1, .bool a0_2, .int .i64 a0_3, .int .u16 a0_4, .int .u32 a0_5, .int .u32 a0_6, .slice A0_7 l0_7.length c0_7, .int .u16 a0_8, .slice A0_9 l0_9.length c0_9, .slice A0_10 l0_10.length c0_10, .int .i64 a0_11]) (t := 45) ?hr ?_; (case hd => rfl); (case hg => rfl); (case hr => first | (go_simp; done) | (go_simp; rfl)); intro gb531 hg w20 hbox hb; have n0_ := bstE HB hb; have BK531 := Aside0.mk (hbox); have GW531 := geE hg HB; have GE531 := geE hg HB; clear HB; have HB := n0_; clear n0_; clear hb hbox hg) | ((with_reducible refine gate_dst (N := 3) rfl ?_); refine box_event ?hg (N := 3) ?hd (cs := #[.bool a1_0, .bool a1_1, .bool a1_2, .int .i64 a1_3, .int .u16 a1_4, .int .u32 a1_5, .int .u32 a1_6, .slice A1_7 l1_7.length c1_7, .int .u16 a1_8, .slice A1_9 l1_9.length c1_9, .slice A1_10 l1_10.length c1_10, .int .i64 a1_11]) (t := 45) ?hr ?_; (case hd => rfl); (case hg => rfl); (case hr => first | (go_simp; done) | (go_simp; rfl)); intro gb532 hg w21 hbox hb; have n0_ := bbE BK531 hb; have n1_ := bstE HB hb; have BK532 := Aside0.mk (hbox); have GW532 := geE hg HB; have GE532 := geE hg HB; have NB531_532 := nlE hg BK531; have NB532_531 := ngE hg BK531; clear BK531; clear HB; have BK531 := n0_; have HB := n1_; clear n0_ n1_; clear hb hbox hg; have hnb22 := NB531_532.out; have hnc22 := NB532_531.out; obtain ⟨Z23_0, Z23_1, Z23_2, Z23_3, Z23_4, Z23_5, Z23_6, Z23_7, Z23_8, Z23_9, Z23_10, Z23_11, Y23_0, Y23_1, Y23_2, Y23_3, Y23_4, Y23_5, Y23_6, Y23_7, Y23_8, Y23_9, Y23_10, Y23_11⟩ := bc12 BK531.out; obtain ⟨Z24_0, Z24_1, Z24_2, Z24_3, Z24_4, Z24_5, Z24_6, Z24_7, Z24_8, Z24_9, Z24_10, Z24_11, Y24_0, Y24_1, Y24_2, Y24_3, Y24_4, Y24_5, Y24_6, Y24_7, Y24_8, Y24_9, Y24_10, Y24_11⟩ := bc12 BK532.out) | ((with_reducible refine gate_callee (f := 33) rfl ?_); refine goesL_ (some 9) rfl rfl Try.func33 (by kernel_rfl) rfl #[.agg #[.bool a0_0, .bool a0_1, .bool a0_2, .int .i64 a0_3, .int .u16 a0_4, .int .u32 a0_5, .int .u32 a0_6, .slice A0_7 l0_7.length c0_7], .agg #[.bool a1_0, .bool a1_1, .bool a1_2, .int .i64 a1_3, .int .u16 a1_4, .int .u32 a1_5, .int .u32 a1_6, .slice A1_7 l1_7.length c1_7]] rfl (by (try simp only [List.map_toArray, List.map_cons, List.map_nil]); first | done | rfl | (simp only [List.length_drop, List.length_take]; rfl)) ?_; (with_reducible refine (crossbarref05_Same.calls k a0_0 a0_1 a0_2 a0_3 a0_4 a0_5 a0_6 _ _ l0_7 a1_0 a1_1 a1_2 a1_3 a1_4 a1_5 a1_6 _ _ l1_7 true _ ?side1 ?side2 ?side3 ?side4 A3.out).mono ?_); (case side1 => exact cbE HR0_7 HB); (case side2 => exact HC0_7.out); (case side3 => exact cbE HR1_7 HB); (case side4 => exact HC1_7.out); rintro e w25 ⟨rfl, hb⟩; refine ⟨_, rfl, ?_⟩; replace BK531 := bbE BK531 hb; replace BK532 := bbE BK532 hb; replace HB := bstE HB hb; (try clear hb); (try clear hb2); (try clear hk); (try clear hi); obtain ⟨Z26_0, Z26_1, Z26_2, Z26_3, Z26_4, Z26_5, Z26_6, Z26_7, Z26_8, Z26_9, Z26_10, Z26_11, Y26_0, Y26_1, Y26_2, Y26_3, Y26_4, Y26_5, Y26_6, Y26_7, Y26_8, Y26_9, Y26_10, Y26_11⟩ := bc12 BK531.out; obtain ⟨Z27_0, Z27_1, Z27_2, Z27_3, Z27_4, Z27_5, Z27_6, Z27_7, Z27_8, Z27_9, Z27_10, Z27_11, Y27_0, Y27_1, Y27_2, Y27_3, Y27_4, Y27_5, Y27_6, Y27_7, Y27_8, Y27_9, Y27_10, Y27_11⟩ := bc12 BK532.out; have hcv28 := Kd.C_string (P := Try.prog) (A := A0_9) (c := c0_9) Try.underlying22 Try.underlying5 Try.underlying9 (Kd.C_below HR0_9.out HB.out); have hcv29 := Kd.C_string (P := Try.prog) (A := A1_9) (c := c1_9) Try.underlying22 Try.underlying5 Try.underlying9 (Kd.C_below HR1_9.out HB.out); have hcv30 := Kd.C_string (P := Try.prog) (A := A0_10) (c := c0_10) Try.underlying22 Try.underlying5 Try.underlying9 (Kd.C_below HR0_10.out HB.out); have hcv31 := Kd.C_string (P := Try.prog) (A := A1_10) (c := c1_10) Try.underlying22 Try.underlying5 Try.underlying9 (Kd.C_below HR1_10.out HB.out)))
    go_ret
    exact ⟨by first | rfl | (simp [errW_none, errW_some] <;> rfl) | (simp [*, errW_none, errW_some] <;> rfl), by repeat (first | (with_reducible first | exact HB.out | apply below_alloc | apply pw_below_drewN | apply below_drew1 | refine below_set ?_ GE531.out | refine below_set ?_ GE532.out) | exact HB.out)⟩
   rw [if_neg c6] at H
   have c6b0 : ((strOfNums l0_9).toList == (strOfNums l1_9).toList) = false := beq_eq_false_iff_ne.mpr c6
   have c6b1 : ((strOfNums l0_9).toList != (strOfNums l1_9).toList) = true := bne_iff_ne.mpr c6
   obtain rfl := Option.some.inj H
   go_enter Try.func18, Try.ntmps18
   go_wp2_with (first | ((with_reducible refine gate_dst (N := 2) rfl ?_); refine box_event ?hg (N := 2) ?hd (cs := #[.bool a0_0, .bool a0_1, .bool a0_2, .int .i64 a0_3, .int .u16 a0_4, .int .u32 a0_5, .int .u32 a0_6, .slice A0_7 l0_7.length c0_7, .int .u16 a0_8, .slice A0_9 l0_9.length c0_9, .slice A0_10 l0_10.length c0_10, .int .i64 a0_11]) (t := 45) ?hr ?_; (case hd => rfl); (case hg => rfl); (case hr => first | (go_simp; done) | (go_simp; rfl)); intro gb531 hg w32 hbox hb; have n0_ := bstE HB hb; have BK531 := Aside0.mk (hbox); have GW531 := geE hg HB; have GE531 := geE hg HB; clear HB; have HB := n0_; clear n0_; clear hb hbox hg) | ((with_reducible refine gate_dst (N := 3) rfl ?_); refine box_event ?hg (N := 3) ?hd (cs := #[.bool a1_0, .bool a1_1, .bool a1_2, .int .i64 a1_3, .int .u16 a1_4, .int .u32 a1_5, .int .u32 a1_6, .slice A1_7 l1_7.length c1_7, .int .u16 a1_8, .slice A1_9 l1_9.length c1_9, .slice A1_10 l1_10.length c1_10, .int .i64 a1_11]) (t := 45) ?hr ?_; (case hd => rfl); (case hg => rfl); (case hr => first | (go_simp; done) | (go_simp; rfl)); intro gb532 hg w33 hbox hb; have n0_ := bbE BK531 hb; have n1_ := bstE HB hb; have BK532 := Aside0.mk (hbox); have GW532 := geE hg HB; have GE532 := geE hg HB; have NB531_532 := nlE hg BK531; have NB532_531 := ngE hg BK531; clear BK531; clear HB; have BK531 := n0_; have HB := n1_; clear n0_ n1_; clear hb hbox hg; have hnb34 := NB531_532.out; have hnc34 := NB532_531.out; obtain ⟨Z35_0, Z35_1, Z35_2, Z35_3, Z35_4, Z35_5, Z35_6, Z35_7, Z35_8, Z35_9, Z35_10, Z35_11, Y35_0, Y35_1, Y35_2, Y35_3, Y35_4, Y35_5, Y35_6, Y35_7, Y35_8, Y35_9, Y35_10, Y35_11⟩ := bc12 BK531.out; obtain ⟨Z36_0, Z36_1, Z36_2, Z36_3, Z36_4, Z36_5, Z36_6, Z36_7, Z36_8, Z36_9, Z36_10, Z36_11, Y36_0, Y36_1, Y36_2, Y36_3, Y36_4, Y36_5, Y36_6, Y36_7, Y36_8, Y36_9, Y36_10, Y36_11⟩ := bc12 BK532.out) | ((with_reducible refine gate_callee (f := 33) rfl ?_); refine goesL_ (some 9) rfl rfl Try.func33 (by kernel_rfl) rfl #[.agg #[.bool a0_0, .bool a0_1, .bool a0_2, .int .i64 a0_3, .int .u16 a0_4, .int .u32 a0_5, .int .u32 a0_6, .slice A0_7 l0_7.length c0_7], .agg #[.bool a1_0, .bool a1_1, .bool a1_2, .int .i64 a1_3, .int .u16 a1_4, .int .u32 a1_5, .int .u32 a1_6, .slice A1_7 l1_7.length c1_7]] rfl (by (try simp only [List.map_toArray, List.map_cons, List.map_nil]); first | done | rfl | (simp only [List.length_drop, List.length_take]; rfl)) ?_; (with_reducible refine (crossbarref05_Same.calls k a0_0 a0_1 a0_2 a0_3 a0_4 a0_5 a0_6 _ _ l0_7 a1_0 a1_1 a1_2 a1_3 a1_4 a1_5 a1_6 _ _ l1_7 true _ ?side1 ?side2 ?side3 ?side4 A3.out).mono ?_); (case side1 => exact cbE HR0_7 HB); (case side2 => exact HC0_7.out); (case side3 => exact cbE HR1_7 HB); (case side4 => exact HC1_7.out); rintro e w37 ⟨rfl, hb⟩; refine ⟨_, rfl, ?_⟩; replace BK531 := bbE BK531 hb; replace BK532 := bbE BK532 hb; replace HB := bstE HB hb; (try clear hb); (try clear hb2); (try clear hk); (try clear hi); obtain ⟨Z38_0, Z38_1, Z38_2, Z38_3, Z38_4, Z38_5, Z38_6, Z38_7, Z38_8, Z38_9, Z38_10, Z38_11, Y38_0, Y38_1, Y38_2, Y38_3, Y38_4, Y38_5, Y38_6, Y38_7, Y38_8, Y38_9, Y38_10, Y38_11⟩ := bc12 BK531.out; obtain ⟨Z39_0, Z39_1, Z39_2, Z39_3, Z39_4, Z39_5, Z39_6, Z39_7, Z39_8, Z39_9, Z39_10, Z39_11, Y39_0, Y39_1, Y39_2, Y39_3, Y39_4, Y39_5, Y39_6, Y39_7, Y39_8, Y39_9, Y39_10, Y39_11⟩ := bc12 BK532.out; have hcv40 := Kd.C_string (P := Try.prog) (A := A0_9) (c := c0_9) Try.underlying22 Try.underlying5 Try.underlying9 (Kd.C_below HR0_9.out HB.out); have hcv41 := Kd.C_string (P := Try.prog) (A := A1_9) (c := c1_9) Try.underlying22 Try.underlying5 Try.underlying9 (Kd.C_below HR1_9.out HB.out)))
   go_ret
   exact ⟨by first | rfl | (simp [errW_none, errW_some] <;> rfl) | (simp [*, errW_none, errW_some] <;> rfl), by repeat (first | (with_reducible first | exact HB.out | apply below_alloc | apply pw_below_drewN | apply below_drew1 | refine below_set ?_ GE531.out | refine below_set ?_ GE532.out) | exact HB.out)⟩
  rw [if_neg c5] at H
  have c5b0 : (a0_8 == a1_8) = false := beq_eq_false_iff_ne.mpr c5
  have c5b1 : (a0_8 != a1_8) = true := bne_iff_ne.mpr c5
  obtain rfl := Option.some.inj H
  go_enter Try.func18, Try.ntmps18
  go_wp2_with (first | ((with_reducible refine gate_dst (N := 2) rfl ?_); refine box_event ?hg (N := 2) ?hd (cs := #[.bool a0_0, .bool a0_1, .bool a0_2, .int .i64 a0_3, .int .u16 a0_4, .int .u32 a0_5, .int .u32 a0_6, .slice A0_7 l0_7.length c0_7, .int .u16 a0_8, .slice A0_9 l0_9.length c0_9, .slice A0_10 l0_10.length c0_10, .int .i64 a0_11]) (t := 45) ?hr ?_; (case hd => rfl); (case hg => rfl); (case hr => first | (go_simp; done) | (go_simp; rfl)); intro gb531 hg w42 hbox hb; have n0_ := bstE HB hb; have BK531 := Aside0.mk (hbox); have GW531 := geE hg HB; have GE531 := geE hg HB; clear HB; have HB := n0_; clear n0_; clear hb hbox hg) | ((with_reducible refine gate_dst (N := 3) rfl ?_); refine box_event ?hg (N := 3) ?hd (cs := #[.bool a1_0, .bool a1_1, .bool a1_2, .int .i64 a1_3, .int .u16 a1_4, .int .u32 a1_5, .int .u32 a1_6, .slice A1_7 l1_7.length c1_7, .int .u16 a1_8, .slice A1_9 l1_9.length c1_9, .slice A1_10 l1_10.length c1_10, .int .i64 a1_11]) (t := 45) ?hr ?_; (case hd => rfl); (case hg => rfl); (case hr => first | (go_simp; done) | (go_simp; rfl)); intro gb532 hg w43 hbox hb; have n0_ := bbE BK531 hb; have n1_ := bstE HB hb; have BK532 := Aside0.mk (hbox); have GW532 := geE hg HB; have GE532 := geE hg HB; have NB531_532 := nlE hg BK531; have NB532_531 := ngE hg BK531; clear BK531; clear HB; have BK531 := n0_; have HB := n1_; clear n0_ n1_; clear hb hbox hg; have hnb44 := NB531_532.out; have hnc44 := NB532_531.out; obtain ⟨Z45_0, Z45_1, Z45_2, Z45_3, Z45_4, Z45_5, Z45_6, Z45_7, Z45_8, Z45_9, Z45_10, Z45_11, Y45_0, Y45_1, Y45_2, Y45_3, Y45_4, Y45_5, Y45_6, Y45_7, Y45_8, Y45_9, Y45_10, Y45_11⟩ := bc12 BK531.out; obtain ⟨Z46_0, Z46_1, Z46_2, Z46_3, Z46_4, Z46_5, Z46_6, Z46_7, Z46_8, Z46_9, Z46_10, Z46_11, Y46_0, Y46_1, Y46_2, Y46_3, Y46_4, Y46_5, Y46_6, Y46_7, Y46_8, Y46_9, Y46_10, Y46_11⟩ := bc12 BK532.out) | ((with_reducible refine gate_callee (f := 33) rfl ?_); refine goesL_ (some 9) rfl rfl Try.func33 (by kernel_rfl) rfl #[.agg #[.bool a0_0, .bool a0_1, .bool a0_2, .int .i64 a0_3, .int .u16 a0_4, .int .u32 a0_5, .int .u32 a0_6, .slice A0_7 l0_7.length c0_7], .agg #[.bool a1_0, .bool a1_1, .bool a1_2, .int .i64 a1_3, .int .u16 a1_4, .int .u32 a1_5, .int .u32 a1_6, .slice A1_7 l1_7.length c1_7]] rfl (by (try simp only [List.map_toArray, List.map_cons, List.map_nil]); first | done | rfl | (simp only [List.length_drop, List.length_take]; rfl)) ?_; (with_reducible refine (crossbarref05_Same.calls k a0_0 a0_1 a0_2 a0_3 a0_4 a0_5 a0_6 _ _ l0_7 a1_0 a1_1 a1_2 a1_3 a1_4 a1_5 a1_6 _ _ l1_7 true _ ?side1 ?side2 ?side3 ?side4 A3.out).mono ?_); (case side1 => exact cbE HR0_7 HB); (case side2 => exact HC0_7.out); (case side3 => exact cbE HR1_7 HB); (case side4 => exact HC1_7.out); rintro e w47 ⟨rfl, hb⟩; refine ⟨_, rfl, ?_⟩; replace BK531 := bbE BK531 hb; replace BK532 := bbE BK532 hb; replace HB := bstE HB hb; (try clear hb); (try clear hb2); (try clear hk); (try clear hi); obtain ⟨Z48_0, Z48_1, Z48_2, Z48_3, Z48_4, Z48_5, Z48_6, Z48_7, Z48_8, Z48_9, Z48_10, Z48_11, Y48_0, Y48_1, Y48_2, Y48_3, Y48_4, Y48_5, Y48_6, Y48_7, Y48_8, Y48_9, Y48_10, Y48_11⟩ := bc12 BK531.out; obtain ⟨Z49_0, Z49_1, Z49_2, Z49_3, Z49_4, Z49_5, Z49_6, Z49_7, Z49_8, Z49_9, Z49_10, Z49_11, Y49_0, Y49_1, Y49_2, Y49_3, Y49_4, Y49_5, Y49_6, Y49_7, Y49_8, Y49_9, Y49_10, Y49_11⟩ := bc12 BK532.out))
  go_ret
  exact ⟨by first | rfl | (simp [errW_none, errW_some] <;> rfl) | (simp [*, errW_none, errW_some] <;> rfl), by repeat (first | (with_reducible first | exact HB.out | apply below_alloc | apply pw_below_drewN | apply below_drew1 | refine below_set ?_ GE531.out | refine below_set ?_ GE532.out) | exact HB.out)⟩
 replace c4 := Bool.eq_false_iff.mpr c4
 subst c4
 have H1 : (some false) = some r := by rw [if_neg (show ¬ (false = true) by decide)] at H; exact H
 clear H
 have H := H1
 clear H1
 obtain rfl := Option.some.inj H
 go_enter Try.func18, Try.ntmps18
 go_wp2_with (first | ((with_reducible refine gate_dst (N := 2) rfl ?_); refine box_event ?hg (N := 2) ?hd (cs := #[.bool a0_0, .bool a0_1, .bool a0_2, .int .i64 a0_3, .int .u16 a0_4, .int .u32 a0_5, .int .u32 a0_6, .slice A0_7 l0_7.length c0_7, .int .u16 a0_8, .slice A0_9 l0_9.length c0_9, .slice A0_10 l0_10.length c0_10, .int .i64 a0_11]) (t := 45) ?hr ?_; (case hd => rfl); (case hg => rfl); (case hr => first | (go_simp; done) | (go_simp; rfl)); intro gb531 hg w50 hbox hb; have n0_ := bstE HB hb; have BK531 := Aside0.mk (hbox); have GW531 := geE hg HB; have GE531 := geE hg HB; clear HB; have HB := n0_; clear n0_; clear hb hbox hg) | ((with_reducible refine gate_dst (N := 3) rfl ?_); refine box_event ?hg (N := 3) ?hd (cs := #[.bool a1_0, .bool a1_1, .bool a1_2, .int .i64 a1_3, .int .u16 a1_4, .int .u32 a1_5, .int .u32 a1_6, .slice A1_7 l1_7.length c1_7, .int .u16 a1_8, .slice A1_9 l1_9.length c1_9, .slice A1_10 l1_10.length c1_10, .int .i64 a1_11]) (t := 45) ?hr ?_; (case hd => rfl); (case hg => rfl); (case hr => first | (go_simp; done) | (go_simp; rfl)); intro gb532 hg w51 hbox hb; have n0_ := bbE BK531 hb; have n1_ := bstE HB hb; have BK532 := Aside0.mk (hbox); have GW532 := geE hg HB; have GE532 := geE hg HB; have NB531_532 := nlE hg BK531; have NB532_531 := ngE hg BK531; clear BK531; clear HB; have BK531 := n0_; have HB := n1_; clear n0_ n1_; clear hb hbox hg; have hnb52 := NB531_532.out; have hnc52 := NB532_531.out; obtain ⟨Z53_0, Z53_1, Z53_2, Z53_3, Z53_4, Z53_5, Z53_6, Z53_7, Z53_8, Z53_9, Z53_10, Z53_11, Y53_0, Y53_1, Y53_2, Y53_3, Y53_4, Y53_5, Y53_6, Y53_7, Y53_8, Y53_9, Y53_10, Y53_11⟩ := bc12 BK531.out; obtain ⟨Z54_0, Z54_1, Z54_2, Z54_3, Z54_4, Z54_5, Z54_6, Z54_7, Z54_8, Z54_9, Z54_10, Z54_11, Y54_0, Y54_1, Y54_2, Y54_3, Y54_4, Y54_5, Y54_6, Y54_7, Y54_8, Y54_9, Y54_10, Y54_11⟩ := bc12 BK532.out) | ((with_reducible refine gate_callee (f := 33) rfl ?_); refine goesL_ (some 9) rfl rfl Try.func33 (by kernel_rfl) rfl #[.agg #[.bool a0_0, .bool a0_1, .bool a0_2, .int .i64 a0_3, .int .u16 a0_4, .int .u32 a0_5, .int .u32 a0_6, .slice A0_7 l0_7.length c0_7], .agg #[.bool a1_0, .bool a1_1, .bool a1_2, .int .i64 a1_3, .int .u16 a1_4, .int .u32 a1_5, .int .u32 a1_6, .slice A1_7 l1_7.length c1_7]] rfl (by (try simp only [List.map_toArray, List.map_cons, List.map_nil]); first | done | rfl | (simp only [List.length_drop, List.length_take]; rfl)) ?_; (with_reducible refine (crossbarref05_Same.calls k a0_0 a0_1 a0_2 a0_3 a0_4 a0_5 a0_6 _ _ l0_7 a1_0 a1_1 a1_2 a1_3 a1_4 a1_5 a1_6 _ _ l1_7 false _ ?side1 ?side2 ?side3 ?side4 A3.out).mono ?_); (case side1 => exact cbE HR0_7 HB); (case side2 => exact HC0_7.out); (case side3 => exact cbE HR1_7 HB); (case side4 => exact HC1_7.out); rintro e w55 ⟨rfl, hb⟩; refine ⟨_, rfl, ?_⟩; replace BK531 := bbE BK531 hb; replace BK532 := bbE BK532 hb; replace HB := bstE HB hb; (try clear hb); (try clear hb2); (try clear hk); (try clear hi)))
 go_ret
 exact ⟨by first | rfl | (simp [errW_none, errW_some] <;> rfl) | (simp [*, errW_none, errW_some] <;> rfl), by repeat (first | (with_reducible first | exact HB.out | apply below_alloc | apply pw_below_drewN | apply below_drew1 | refine below_set ?_ GE531.out | refine below_set ?_ GE532.out) | exact HB.out)⟩
def head_Right.f (a0_0 : Bool) (a0_1 : Bool) (a0_2 : Bool) (a0_3 : Int) (a0_4 : Int) (a0_5 : Int) (a0_6 : Int) (l0_7 : List Int) : Option (Bool) := if a0_3 ≥ 0 then (if a0_3 ≤ 127 then (some (decide ((l0_7.length : Int) ≤ 15))) else (some false)) else (some false)
set_option maxHeartbeats 8000000 in
set_option maxRecDepth 100000 in
theorem head_Right.calls (a0_0 : Bool) (a0_1 : Bool) (a0_2 : Bool) (a0_3 : Int) (a0_4 : Int) (a0_5 : Int) (a0_6 : Int) (A0_7 : Option Addr) (c0_7 : Nat) (l0_7 : List Int) (r : Bool) (w : World) (hr0_7 : Kd.C (Kd.int .u32) w A0_7 l0_7.length l0_7) (hc0_7 : l0_7.length ≤ c0_7) (h : head_Right.f a0_0 a0_1 a0_2 a0_3 a0_4 a0_5 a0_6 l0_7 = some r) :
  Calls Try.prog 52 #[.agg #[.bool a0_0, .bool a0_1, .bool a0_2, .int .i64 a0_3, .int .u16 a0_4, .int .u32 a0_5, .int .u32 a0_6, .slice A0_7 l0_7.length c0_7]] w fun e w' => e = .returned (.bool r) ∧ Below w.heap.size w w' := by
 have hu43 := Try.underlying43
 have HR0_7 := Aside0.mk hr0_7
 have HC0_7 := Aside0.mk hc0_7
 clear hr0_7 hc0_7
 have HB := Aside0.mk (Below.refl w.heap.size w)
 have H : (if a0_3 ≥ 0 then (if a0_3 ≤ 127 then (some (decide ((l0_7.length : Int) ≤ 15))) else (some false)) else (some false)) = some r := h
 clear h
 by_cases c2 : a0_3 ≥ 0
 ·rw [if_pos c2] at H
  have c2b0 : decide (0 ≤ a0_3) = true := decide_eq_true c2
  clear c2
  by_cases c3 : a0_3 ≤ 127
  ·rw [if_pos c3] at H
   have c3b0 : decide (a0_3 ≤ 127) = true := decide_eq_true c3
   clear c3
   obtain rfl := Option.some.inj H
   go_enter Try.func52, Try.ntmps52
   go_wp2_with (first | ((with_reducible refine gate_dst (N := 1) rfl ?_); (try (refine gate_guard (by rfl) ?_; dsimp only)); refine box_event ?hg (N := 1) ?hd (cs := #[.bool a0_0, .bool a0_1, .bool a0_2, .int .i64 a0_3, .int .u16 a0_4, .int .u32 a0_5, .int .u32 a0_6, .slice A0_7 l0_7.length c0_7]) (t := 43) ?hr ?_; (case hd => rfl); (case hg => rfl); (case hr => first | (go_simp; done) | (go_simp; rfl)); intro gb603 hg w4 hbox hb; have n0_ := bstE HB hb; have BK603 := Aside0.mk (hbox); have GW603 := geE hg HB; have GE603 := geE hg HB; clear HB; have HB := n0_; clear n0_; clear hb hbox hg; obtain ⟨Z5_0, Z5_1, Z5_2, Z5_3, Z5_4, Z5_5, Z5_6, Z5_7, Y5_0, Y5_1, Y5_2, Y5_3, Y5_4, Y5_5, Y5_6, Y5_7⟩ := bc8 BK603.out))
   go_ret
   exact ⟨by first | rfl | (simp [errW_none, errW_some] <;> rfl) | (simp [*, errW_none, errW_some] <;> rfl), by repeat (first | (with_reducible first | exact HB.out | apply below_alloc | apply pw_below_drewN | apply below_drew1 | refine below_set ?_ GE603.out) | exact HB.out)⟩
  rw [if_neg c3] at H
  have c3b0 : decide (a0_3 ≤ 127) = false := decide_eq_false c3
  clear c3
  obtain rfl := Option.some.inj H
  go_enter Try.func52, Try.ntmps52
  go_wp2_with (first | ((with_reducible refine gate_dst (N := 1) rfl ?_); (try (refine gate_guard (by rfl) ?_; dsimp only)); refine box_event ?hg (N := 1) ?hd (cs := #[.bool a0_0, .bool a0_1, .bool a0_2, .int .i64 a0_3, .int .u16 a0_4, .int .u32 a0_5, .int .u32 a0_6, .slice A0_7 l0_7.length c0_7]) (t := 43) ?hr ?_; (case hd => rfl); (case hg => rfl); (case hr => first | (go_simp; done) | (go_simp; rfl)); intro gb603 hg w6 hbox hb; have n0_ := bstE HB hb; have BK603 := Aside0.mk (hbox); have GW603 := geE hg HB; have GE603 := geE hg HB; clear HB; have HB := n0_; clear n0_; clear hb hbox hg; obtain ⟨Z7_0, Z7_1, Z7_2, Z7_3, Z7_4, Z7_5, Z7_6, Z7_7, Y7_0, Y7_1, Y7_2, Y7_3, Y7_4, Y7_5, Y7_6, Y7_7⟩ := bc8 BK603.out))
  go_ret
  exact ⟨by first | rfl | (simp [errW_none, errW_some] <;> rfl) | (simp [*, errW_none, errW_some] <;> rfl), by repeat (first | (with_reducible first | exact HB.out | apply below_alloc | apply pw_below_drewN | apply below_drew1 | refine below_set ?_ GE603.out) | exact HB.out)⟩
 rw [if_neg c2] at H
 have c2b0 : decide (0 ≤ a0_3) = false := decide_eq_false c2
 clear c2
 obtain rfl := Option.some.inj H
 go_enter Try.func52, Try.ntmps52
 go_wp2_with (first | ((with_reducible refine gate_dst (N := 1) rfl ?_); (try (refine gate_guard (by rfl) ?_; dsimp only)); refine box_event ?hg (N := 1) ?hd (cs := #[.bool a0_0, .bool a0_1, .bool a0_2, .int .i64 a0_3, .int .u16 a0_4, .int .u32 a0_5, .int .u32 a0_6, .slice A0_7 l0_7.length c0_7]) (t := 43) ?hr ?_; (case hd => rfl); (case hg => rfl); (case hr => first | (go_simp; done) | (go_simp; rfl)); intro gb603 hg w8 hbox hb; have n0_ := bstE HB hb; have BK603 := Aside0.mk (hbox); have GW603 := geE hg HB; have GE603 := geE hg HB; clear HB; have HB := n0_; clear n0_; clear hb hbox hg; obtain ⟨Z9_0, Z9_1, Z9_2, Z9_3, Z9_4, Z9_5, Z9_6, Z9_7, Y9_0, Y9_1, Y9_2, Y9_3, Y9_4, Y9_5, Y9_6, Y9_7⟩ := bc8 BK603.out))
 go_ret
 exact ⟨by first | rfl | (simp [errW_none, errW_some] <;> rfl) | (simp [*, errW_none, errW_some] <;> rfl), by repeat (first | (with_reducible first | exact HB.out | apply below_alloc | apply pw_below_drewN | apply below_drew1 | refine below_set ?_ GE603.out) | exact HB.out)⟩
def head_Size.f (a0_0 : Bool) (a0_1 : Bool) (a0_2 : Bool) (a0_3 : Int) (a0_4 : Int) (a0_5 : Int) (a0_6 : Int) (l0_7 : List Int) : Option (Int) := (head_Right.f a0_0 a0_1 a0_2 a0_3 a0_4 a0_5 a0_6 l0_7).bind fun t605 => (if t605 = true then (some (wrap64 (12 + (wrap64 (4 * (l0_7.length : Int)))))) else (some 0))
set_option maxHeartbeats 8000000 in
set_option maxRecDepth 100000 in
theorem head_Size.calls (a0_0 : Bool) (a0_1 : Bool) (a0_2 : Bool) (a0_3 : Int) (a0_4 : Int) (a0_5 : Int) (a0_6 : Int) (A0_7 : Option Addr) (c0_7 : Nat) (l0_7 : List Int) (r : Int) (w : World) (hr0_7 : Kd.C (Kd.int .u32) w A0_7 l0_7.length l0_7) (hc0_7 : l0_7.length ≤ c0_7) (h : head_Size.f a0_0 a0_1 a0_2 a0_3 a0_4 a0_5 a0_6 l0_7 = some r) :
  Calls Try.prog 51 #[.agg #[.bool a0_0, .bool a0_1, .bool a0_2, .int .i64 a0_3, .int .u16 a0_4, .int .u32 a0_5, .int .u32 a0_6, .slice A0_7 l0_7.length c0_7]] w fun e w' => e = .returned (.int .i64 r) ∧ Below w.heap.size w w' := by
 have hu43 := Try.underlying43
 have HR0_7 := Aside0.mk hr0_7
 have HC0_7 := Aside0.mk hc0_7
 clear hr0_7 hc0_7
 have HB := Aside0.mk (Below.refl w.heap.size w)
 have H : ((head_Right.f a0_0 a0_1 a0_2 a0_3 a0_4 a0_5 a0_6 l0_7).bind fun t605 => (if t605 = true then (some (wrap64 (12 + (wrap64 (4 * (l0_7.length : Int)))))) else (some 0))) = some r := h
 clear h
 replace H := Option.bind_eq_some_iff.mp H
 obtain ⟨t605, A20, H⟩ := H
 replace H : (if t605 = true then (some (wrap64 (12 + (wrap64 (4 * (l0_7.length : Int)))))) else (some 0)) = some r := H
 have A2 := Aside0.mk A20
 clear A20
 by_cases c3 : t605 = true
 ·subst c3
  have H1 : (some (wrap64 (12 + (wrap64 (4 * (l0_7.length : Int)))))) = some r := by rw [if_pos rfl] at H; exact H
  clear H
  have H := H1
  clear H1
  obtain rfl := Option.some.inj H
  go_enter Try.func51, Try.ntmps51
  go_wp2_with (first | ((with_reducible refine gate_dst (N := 1) rfl ?_); refine box_event ?hg (N := 1) ?hd (cs := #[.bool a0_0, .bool a0_1, .bool a0_2, .int .i64 a0_3, .int .u16 a0_4, .int .u32 a0_5, .int .u32 a0_6, .slice A0_7 l0_7.length c0_7]) (t := 43) ?hr ?_; (case hd => rfl); (case hg => rfl); (case hr => first | (go_simp; done) | (go_simp; rfl)); intro gb604 hg w4 hbox hb; have n0_ := bstE HB hb; have BK604 := Aside0.mk (hbox); have GW604 := geE hg HB; have GE604 := geE hg HB; clear HB; have HB := n0_; clear n0_; clear hb hbox hg; obtain ⟨Z5_0, Z5_1, Z5_2, Z5_3, Z5_4, Z5_5, Z5_6, Z5_7, Y5_0, Y5_1, Y5_2, Y5_3, Y5_4, Y5_5, Y5_6, Y5_7⟩ := bc8 BK604.out) | ((with_reducible refine gate_callee (f := 52) rfl ?_); refine goesL_ (some 4) rfl rfl Try.func52 (by kernel_rfl) rfl #[.agg #[.bool a0_0, .bool a0_1, .bool a0_2, .int .i64 a0_3, .int .u16 a0_4, .int .u32 a0_5, .int .u32 a0_6, .slice A0_7 l0_7.length c0_7]] rfl (by (try simp only [List.map_toArray, List.map_cons, List.map_nil]); first | done | rfl | (simp only [List.length_drop, List.length_take]; rfl)) ?_; (with_reducible refine (head_Right.calls a0_0 a0_1 a0_2 a0_3 a0_4 a0_5 a0_6 _ _ l0_7 true _ ?side1 ?side2 A2.out).mono ?_); (case side1 => exact cbE HR0_7 HB); (case side2 => exact HC0_7.out); rintro e w6 ⟨rfl, hb⟩; refine ⟨_, rfl, ?_⟩; replace BK604 := bbE BK604 hb; replace HB := bstE HB hb; (try clear hb); (try clear hb2); (try clear hk); (try clear hi); obtain ⟨Z7_0, Z7_1, Z7_2, Z7_3, Z7_4, Z7_5, Z7_6, Z7_7, Y7_0, Y7_1, Y7_2, Y7_3, Y7_4, Y7_5, Y7_6, Y7_7⟩ := bc8 BK604.out))
  go_ret
  exact ⟨by first | rfl | (simp [errW_none, errW_some] <;> rfl) | (simp [*, errW_none, errW_some] <;> rfl), by repeat (first | (with_reducible first | exact HB.out | apply below_alloc | apply pw_below_drewN | apply below_drew1 | refine below_set ?_ GE604.out) | exact HB.out)⟩
 replace c3 := Bool.eq_false_iff.mpr c3
 subst c3
 have H1 : (some 0) = some r := by rw [if_neg (show ¬ (false = true) by decide)] at H; exact H
 clear H
 have H := H1
 clear H1
 obtain rfl := Option.some.inj H
 go_enter Try.func51, Try.ntmps51
 go_wp2_with (first | ((with_reducible refine gate_dst (N := 1) rfl ?_); refine box_event ?hg (N := 1) ?hd (cs := #[.bool a0_0, .bool a0_1, .bool a0_2, .int .i64 a0_3, .int .u16 a0_4, .int .u32 a0_5, .int .u32 a0_6, .slice A0_7 l0_7.length c0_7]) (t := 43) ?hr ?_; (case hd => rfl); (case hg => rfl); (case hr => first | (go_simp; done) | (go_simp; rfl)); intro gb604 hg w8 hbox hb; have n0_ := bstE HB hb; have BK604 := Aside0.mk (hbox); have GW604 := geE hg HB; have GE604 := geE hg HB; clear HB; have HB := n0_; clear n0_; clear hb hbox hg; obtain ⟨Z9_0, Z9_1, Z9_2, Z9_3, Z9_4, Z9_5, Z9_6, Z9_7, Y9_0, Y9_1, Y9_2, Y9_3, Y9_4, Y9_5, Y9_6, Y9_7⟩ := bc8 BK604.out) | ((with_reducible refine gate_callee (f := 52) rfl ?_); refine goesL_ (some 4) rfl rfl Try.func52 (by kernel_rfl) rfl #[.agg #[.bool a0_0, .bool a0_1, .bool a0_2, .int .i64 a0_3, .int .u16 a0_4, .int .u32 a0_5, .int .u32 a0_6, .slice A0_7 l0_7.length c0_7]] rfl (by (try simp only [List.map_toArray, List.map_cons, List.map_nil]); first | done | rfl | (simp only [List.length_drop, List.length_take]; rfl)) ?_; (with_reducible refine (head_Right.calls a0_0 a0_1 a0_2 a0_3 a0_4 a0_5 a0_6 _ _ l0_7 false _ ?side1 ?side2 A2.out).mono ?_); (case side1 => exact cbE HR0_7 HB); (case side2 => exact HC0_7.out); rintro e w10 ⟨rfl, hb⟩; refine ⟨_, rfl, ?_⟩; replace BK604 := bbE BK604 hb; replace HB := bstE HB hb; (try clear hb); (try clear hb2); (try clear hk); (try clear hi)))
 go_ret
 exact ⟨by first | rfl | (simp [errW_none, errW_some] <;> rfl) | (simp [*, errW_none, errW_some] <;> rfl), by repeat (first | (with_reducible first | exact HB.out | apply below_alloc | apply pw_below_drewN | apply below_drew1 | refine below_set ?_ GE604.out) | exact HB.out)⟩
def packet_sum.f (a0_0 : Bool) (a0_1 : Bool) (a0_2 : Bool) (a0_3 : Int) (a0_4 : Int) (a0_5 : Int) (a0_6 : Int) (l0_7 : List Int) (a0_8 : Int) (l0_9 : List Int) (l0_10 : List Int) (a0_11 : Int) : Option (Int) := (head_Size.f a0_0 a0_1 a0_2 a0_3 a0_4 a0_5 a0_6 l0_7).bind fun t607 => (if a0_1 = true then (some (wrap64 ((wrap64 ((wrap64 (t607 + (l0_10.length : Int))) + a0_11)) + (wrap64 (4 + (l0_9.length : Int)))))) else (some (wrap64 ((wrap64 (t607 + (l0_10.length : Int))) + a0_11))))
def packet_sum.T1 : Bool × List (List Nat × List Nat) := (true, [([], []), ([0], [0]), ([1], [1]), ([], []), ([3], [3]), ([4], [4]), ([2, 5], [2, 5]), ([], []), ([7], [7]), ([6, 8], [6, 8]), ([9, 2, 0, 1, 2, 3, 4, 5, 6, 7, 8, 9], [9])])
def packet_sum.B1 : List Nat := [0, 1, 3, 0, 8, 24, 63, 0, 128, 511, 1023]
theorem packet_sum.tab1 : rtab .any (opsOf Try.f35 1) = packet_sum.T1 := by kernel_rfl
theorem packet_sum.bits1 : waitsOk packet_sum.T1.2 packet_sum.B1 = true := by kernel_rfl
set_option maxHeartbeats 8000000 in
set_option maxRecDepth 100000 in
theorem packet_sum.calls (a0_0 : Bool) (a0_1 : Bool) (a0_2 : Bool) (a0_3 : Int) (a0_4 : Int) (a0_5 : Int) (a0_6 : Int) (A0_7 : Option Addr) (c0_7 : Nat) (l0_7 : List Int) (a0_8 : Int) (A0_9 : Option Addr) (c0_9 : Nat) (l0_9 : List Int) (A0_10 : Option Addr) (c0_10 : Nat) (l0_10 : List Int) (a0_11 : Int) (r : Int) (w : World) (hr0_7 : Kd.C (Kd.int .u32) w A0_7 l0_7.length l0_7) (hc0_7 : l0_7.length ≤ c0_7) (hr0_9 : Kd.C (Kd.int .u8) w A0_9 l0_9.length l0_9) (hc0_9 : l0_9.length ≤ c0_9) (hr0_10 : Kd.C (Kd.int .u8) w A0_10 l0_10.length l0_10) (hc0_10 : l0_10.length ≤ c0_10) (h : packet_sum.f a0_0 a0_1 a0_2 a0_3 a0_4 a0_5 a0_6 l0_7 a0_8 l0_9 l0_10 a0_11 = some r) :
  Calls Try.prog 35 #[.agg #[.bool a0_0, .bool a0_1, .bool a0_2, .int .i64 a0_3, .int .u16 a0_4, .int .u32 a0_5, .int .u32 a0_6, .slice A0_7 l0_7.length c0_7, .int .u16 a0_8, .slice A0_9 l0_9.length c0_9, .slice A0_10 l0_10.length c0_10, .int .i64 a0_11]] w fun e w' => e = .returned (.int .i64 r) ∧ Below w.heap.size w w' := by
 have hu45 := Try.underlying45
 have hu43 := Try.underlying43
 have HR0_7 := Aside0.mk hr0_7
 have HC0_7 := Aside0.mk hc0_7
 clear hr0_7 hc0_7
 have HR0_9 := Aside0.mk hr0_9
 have HC0_9 := Aside0.mk hc0_9
 clear hr0_9 hc0_9
 have HR0_10 := Aside0.mk hr0_10
 have HC0_10 := Aside0.mk hc0_10
 clear hr0_10 hc0_10
 have HB := Aside0.mk (Below.refl w.heap.size w)
 have H : ((head_Size.f a0_0 a0_1 a0_2 a0_3 a0_4 a0_5 a0_6 l0_7).bind fun t607 => (if a0_1 = true then (some (wrap64 ((wrap64 ((wrap64 (t607 + (l0_10.length : Int))) + a0_11)) + (wrap64 (4 + (l0_9.length : Int)))))) else (some (wrap64 ((wrap64 (t607 + (l0_10.length : Int))) + a0_11))))) = some r := h
 clear h
 replace H := Option.bind_eq_some_iff.mp H
 obtain ⟨t607, A20, H⟩ := H
 replace H : (if a0_1 = true then (some (wrap64 ((wrap64 ((wrap64 (t607 + (l0_10.length : Int))) + a0_11)) + (wrap64 (4 + (l0_9.length : Int)))))) else (some (wrap64 ((wrap64 (t607 + (l0_10.length : Int))) + a0_11)))) = some r := H
 have A2 := Aside0.mk A20
 clear A20
 by_cases c3 : a0_1 = true
 ·subst c3
  have H1 : (some (wrap64 ((wrap64 ((wrap64 (t607 + (l0_10.length : Int))) + a0_11)) + (wrap64 (4 + (l0_9.length : Int)))))) = some r := by rw [if_pos rfl] at H; exact H
  clear H
  have H := H1
  clear H1
  obtain rfl := Option.some.inj H
  go_enter Try.func35, Try.ntmps35
  try go_wp2_with (first | ((with_reducible refine gate_dst (N := 1) rfl ?_); refine box_event ?hg (N := 1) ?hd (cs := #[.bool a0_0, .bool true, .bool a0_2, .int .i64 a0_3, .int .u16 a0_4, .int .u32 a0_5, .int .u32 a0_6, .slice A0_7 l0_7.length c0_7, .int .u16 a0_8, .slice A0_9 l0_9.length c0_9, .slice A0_10 l0_10.length c0_10, .int .i64 a0_11]) (t := 45) ?hr ?_; (case hd => rfl); (case hg => rfl); (case hr => first | (go_simp; done) | (go_simp; rfl)); intro gb606 hg w4 hbox hb; have n0_ := bstE HB hb; have BK606 := Aside0.mk (hbox); have GW606 := geE hg HB; have GE606 := geE hg HB; clear HB; have HB := n0_; clear n0_; clear hb hbox hg))
  replace BK606 := Aside0.mk (blk_drew BK606.out)
  replace HB := Aside0.mk (below_drew1 HB.out)
  refine start_ (n := 11) (S := fun w' => w'.cell? ⟨gb606, 0, none⟩ = some (.bool a0_0) ∧ w'.cell? ⟨gb606, 1, none⟩ = some (.bool true) ∧ w'.cell? ⟨gb606, 2, none⟩ = some (.bool a0_2) ∧ w'.cell? ⟨gb606, 3, none⟩ = some (.int .i64 a0_3) ∧ w'.cell? ⟨gb606, 4, none⟩ = some (.int .u16 a0_4) ∧ w'.cell? ⟨gb606, 5, none⟩ = some (.int .u32 a0_5) ∧ w'.cell? ⟨gb606, 6, none⟩ = some (.int .u32 a0_6) ∧ w'.cell? ⟨gb606, 7, none⟩ = some (.slice A0_7 l0_7.length c0_7) ∧ w'.cell? ⟨gb606, 8, none⟩ = some (.int .u16 a0_8) ∧ w'.cell? ⟨gb606, 9, none⟩ = some (.slice A0_9 l0_9.length c0_9) ∧ w'.cell? ⟨gb606, 10, none⟩ = some (.slice A0_10 l0_10.length c0_10) ∧ w'.cell? ⟨gb606, 11, none⟩ = some (.int .i64 a0_11)) (ds := []) #[false, false, false, false, false, false, false, false, false, false, false] (by kernel_rfl) rfl rfl ⟨(blk_cell BK606.out 0).trans rfl, (blk_cell BK606.out 1).trans rfl, (blk_cell BK606.out 2).trans rfl, (blk_cell BK606.out 3).trans rfl, (blk_cell BK606.out 4).trans rfl, (blk_cell BK606.out 5).trans rfl, (blk_cell BK606.out 6).trans rfl, (blk_cell BK606.out 7).trans rfl, (blk_cell BK606.out 8).trans rfl, (blk_cell BK606.out 9).trans rfl, (blk_cell BK606.out 10).trans rfl, (blk_cell BK606.out 11).trans rfl⟩ (fun hHeld => ?_); refine with_tabW packet_sum.tab1 packet_sum.bits1 (fun HT_ HW_ => ?_)
  generalize w4.drew = w5 at BK606 HB hHeld ⊢
  refine pure_ (i := 0) (N := some 4) (v := ?_) (a' := ?_) #[true, false, false, false, false, false, false, false, false, false, false] rfl rfl (any_of HT_.out (by kernel_rfl)) (fun _ _ _ h => h) (Or.inl ⟨by rfl, ?_⟩) ?_ ?_
  rotate_left
  ·intro w'
   go_simp
   with_reducible rfl
  rotate_left
  ·simp only [Act.put, List.setIfInBounds_toArray, List.set_cons_zero, List.set_cons_succ, i64_w, i32_w]
   rfl
  refine pure_ (i := 3) (N := some 7) (v := ?_) (a' := ?_) #[true, false, false, true, false, false, false, false, false, false, false] rfl rfl (any_of HT_.out (by kernel_rfl)) (fun _ _ _ h => h) (Or.inl ⟨by rfl, ?_⟩) ?_ ?_
  rotate_left
  ·intro w'
   go_simp
   with_reducible rfl
  rotate_left
  ·simp only [Act.put, List.setIfInBounds_toArray, List.set_cons_zero, List.set_cons_succ, i64_w, i32_w]
   rfl
  refine pure_ (i := 7) (N := some 11) (v := ?_) (a' := ?_) #[true, false, false, true, false, false, false, true, false, false, false] rfl rfl (any_of HT_.out (by kernel_rfl)) (fun _ _ _ h => h) (Or.inl ⟨by rfl, ?_⟩) ?_ ?_
  rotate_left
  ·intro w'
   go_simp
   with_reducible rfl
  rotate_left
  ·simp only [Act.put, List.setIfInBounds_toArray, List.set_cons_zero, List.set_cons_succ, i64_w, i32_w]
   rfl
  refine take_ (i := 1) (N := some 5) (v := ?_) (a' := ?_) #[true, true, false, true, false, false, false, true, false, false, false] rfl rfl (take_ofW HT_.out HW_.out (by kernel_rfl)) (fun _ _ _ h => h) (Or.inl ⟨by rfl, ?_⟩) hHeld ?_ ?_
  rotate_left
  ·rintro w' ⟨s0, s1, s2, s3, s4, s5, s6, s7, s8, s9, s10, s11⟩
   go_simp
   with_reducible rfl
  rotate_left
  ·simp only [Act.put, List.setIfInBounds_toArray, List.set_cons_zero, List.set_cons_succ, i64_w, i32_w]
   rfl
  refine take_ (i := 4) (N := some 8) (v := ?_) (a' := ?_) #[true, true, false, true, true, false, false, true, false, false, false] rfl rfl (take_ofW HT_.out HW_.out (by kernel_rfl)) (fun _ _ _ h => h) (Or.inl ⟨by rfl, ?_⟩) hHeld ?_ ?_
  rotate_left
  ·rintro w' ⟨s0, s1, s2, s3, s4, s5, s6, s7, s8, s9, s10, s11⟩
   go_simp
   with_reducible rfl
  rotate_left
  ·simp only [Act.put, List.setIfInBounds_toArray, List.set_cons_zero, List.set_cons_succ, i64_w, i32_w]
   rfl
  refine pure_ (i := 5) (N := some 9) (v := ?_) (a' := ?_) #[true, true, false, true, true, true, false, true, false, false, false] rfl rfl (any_of HT_.out (by kernel_rfl)) (fun _ _ _ h => h) (Or.inl ⟨by rfl, ?_⟩) ?_ ?_
  rotate_left
  ·intro w'
   go_simp
   with_reducible rfl
  rotate_left
  ·simp only [Act.put, List.setIfInBounds_toArray, List.set_cons_zero, List.set_cons_succ, i64_w, i32_w]
   rfl
  refine take_ (i := 8) (N := some 12) (v := ?_) (a' := ?_) #[true, true, false, true, true, true, false, true, true, false, false] rfl rfl (take_ofW HT_.out HW_.out (by kernel_rfl)) (fun _ _ _ h => h) (Or.inl ⟨by rfl, ?_⟩) hHeld ?_ ?_
  rotate_left
  ·rintro w' ⟨s0, s1, s2, s3, s4, s5, s6, s7, s8, s9, s10, s11⟩
   go_simp
   with_reducible rfl
  rotate_left
  ·simp only [Act.put, List.setIfInBounds_toArray, List.set_cons_zero, List.set_cons_succ, i64_w, i32_w]
   rfl
  refine one_ (i := 2) (N := some 6) #[true, true, true, true, true, true, false, true, true, false, false] rfl rfl (one_of HT_.out (by kernel_rfl)) (by decide) (fun K hK => ?_)
  refine goes_ Try.func51 (by kernel_rfl) rfl #[.agg #[.bool a0_0, .bool true, .bool a0_2, .int .i64 a0_3, .int .u16 a0_4, .int .u32 a0_5, .int .u32 a0_6, .slice A0_7 l0_7.length c0_7]] (by rfl) rfl rfl (by (try simp only [List.map_toArray, List.map_cons, List.map_nil]); first | done | rfl | (simp only [List.length_drop, List.length_take]; rfl)) ?_
  with_reducible refine (head_Size.calls a0_0 true a0_2 a0_3 a0_4 a0_5 a0_6 _ _ l0_7 t607 _ ?side1 ?side2 A2.out).mono ?_
  (case side1 => exact cbE HR0_7 HB)
  (case side2 => exact HC0_7.out)
  rintro e w6 ⟨rfl, hb⟩
  refine ⟨_, rfl, ?_⟩
  replace BK606 := bbE BK606 hb
  replace HB := bstE HB hb
  (try clear hb)
  (try clear hb2)
  (try clear hk)
  (try clear hi)
  refine hK.out _ _ ⟨(blk_cell BK606.out 0).trans rfl, (blk_cell BK606.out 1).trans rfl, (blk_cell BK606.out 2).trans rfl, (blk_cell BK606.out 3).trans rfl, (blk_cell BK606.out 4).trans rfl, (blk_cell BK606.out 5).trans rfl, (blk_cell BK606.out 6).trans rfl, (blk_cell BK606.out 7).trans rfl, (blk_cell BK606.out 8).trans rfl, (blk_cell BK606.out 9).trans rfl, (blk_cell BK606.out 10).trans rfl, (blk_cell BK606.out 11).trans rfl⟩ (fun hHeld => ?_)
  clear hK K
  refine norm_ (a' := ?_) ?_ ?_
  rotate_left
  ·show Act.put _ (some 6) _ = _
   simp only [Act.put, List.setIfInBounds_toArray, List.set_cons_zero, List.set_cons_succ, i64_w, i32_w]
   rfl
  refine pure_ (i := 6) (N := some 10) (v := ?_) (a' := ?_) #[true, true, true, true, true, true, true, true, true, false, false] rfl rfl (any_of HT_.out (by kernel_rfl)) (fun _ _ _ h => h) (Or.inl ⟨by rfl, ?_⟩) ?_ ?_
  rotate_left
  ·intro w'
   go_simp
   with_reducible rfl
  rotate_left
  ·simp only [Act.put, List.setIfInBounds_toArray, List.set_cons_zero, List.set_cons_succ, i64_w, i32_w]
   rfl
  refine pure_ (i := 9) (N := some 13) (v := ?_) (a' := ?_) #[true, true, true, true, true, true, true, true, true, true, false] rfl rfl (any_of HT_.out (by kernel_rfl)) (fun _ _ _ h => h) (Or.inl ⟨by rfl, ?_⟩) ?_ ?_
  rotate_left
  ·intro w'
   go_simp
   with_reducible rfl
  rotate_left
  ·simp only [Act.put, List.setIfInBounds_toArray, List.set_cons_zero, List.set_cons_succ, i64_w, i32_w]
   rfl
  refine pure_ (i := 10) (N := some 3) (v := ?_) (a' := ?_) #[true, true, true, true, true, true, true, true, true, true, true] rfl rfl (any_of HT_.out (by kernel_rfl)) (fun _ _ _ h => h) (Or.inl ⟨by rfl, ?_⟩) ?_ ?_
  rotate_left
  ·intro w'
   go_simp
   with_reducible rfl
  rotate_left
  ·simp only [Act.put, List.setIfInBounds_toArray, List.set_cons_zero, List.set_cons_succ, i64_w, i32_w]
   rfl
  refine done_ (done_of HT_.out (by kernel_rfl)) ?_
  obtain ⟨Z7_0, Z7_1, Z7_2, Z7_3, Z7_4, Z7_5, Z7_6, Z7_7, Z7_8, Z7_9, Z7_10, Z7_11, Y7_0, Y7_1, Y7_2, Y7_3, Y7_4, Y7_5, Y7_6, Y7_7, Y7_8, Y7_9, Y7_10, Y7_11⟩ := bc12 BK606.out
  try go_wp2
  go_ret
  exact ⟨by first | rfl | (simp [errW_none, errW_some] <;> rfl) | (simp [*, errW_none, errW_some] <;> rfl), by repeat (first | (with_reducible first | exact HB.out | apply below_alloc | apply pw_below_drewN | apply below_drew1 | refine below_set ?_ GE606.out) | exact HB.out)⟩
 replace c3 := Bool.eq_false_iff.mpr c3
 subst c3
 have H1 : (some (wrap64 ((wrap64 (t607 + (l0_10.length : Int))) + a0_11))) = some r := by rw [if_neg (show ¬ (false = true) by decide)] at H; exact H
 clear H
 have H := H1
 clear H1
 obtain rfl := Option.some.inj H
 go_enter Try.func35, Try.ntmps35
 try go_wp2_with (first | ((with_reducible refine gate_dst (N := 1) rfl ?_); refine box_event ?hg (N := 1) ?hd (cs := #[.bool a0_0, .bool false, .bool a0_2, .int .i64 a0_3, .int .u16 a0_4, .int .u32 a0_5, .int .u32 a0_6, .slice A0_7 l0_7.length c0_7, .int .u16 a0_8, .slice A0_9 l0_9.length c0_9, .slice A0_10 l0_10.length c0_10, .int .i64 a0_11]) (t := 45) ?hr ?_; (case hd => rfl); (case hg => rfl); (case hr => first | (go_simp; done) | (go_simp; rfl)); intro gb606 hg w8 hbox hb; have n0_ := bstE HB hb; have BK606 := Aside0.mk (hbox); have GW606 := geE hg HB; have GE606 := geE hg HB; clear HB; have HB := n0_; clear n0_; clear hb hbox hg))
 replace BK606 := Aside0.mk (blk_drew BK606.out)
 replace HB := Aside0.mk (below_drew1 HB.out)
 refine start_ (n := 11) (S := fun w' => w'.cell? ⟨gb606, 0, none⟩ = some (.bool a0_0) ∧ w'.cell? ⟨gb606, 1, none⟩ = some (.bool false) ∧ w'.cell? ⟨gb606, 2, none⟩ = some (.bool a0_2) ∧ w'.cell? ⟨gb606, 3, none⟩ = some (.int .i64 a0_3) ∧ w'.cell? ⟨gb606, 4, none⟩ = some (.int .u16 a0_4) ∧ w'.cell? ⟨gb606, 5, none⟩ = some (.int .u32 a0_5) ∧ w'.cell? ⟨gb606, 6, none⟩ = some (.int .u32 a0_6) ∧ w'.cell? ⟨gb606, 7, none⟩ = some (.slice A0_7 l0_7.length c0_7) ∧ w'.cell? ⟨gb606, 8, none⟩ = some (.int .u16 a0_8) ∧ w'.cell? ⟨gb606, 9, none⟩ = some (.slice A0_9 l0_9.length c0_9) ∧ w'.cell? ⟨gb606, 10, none⟩ = some (.slice A0_10 l0_10.length c0_10) ∧ w'.cell? ⟨gb606, 11, none⟩ = some (.int .i64 a0_11)) (ds := []) #[false, false, false, false, false, false, false, false, false, false, false] (by kernel_rfl) rfl rfl ⟨(blk_cell BK606.out 0).trans rfl, (blk_cell BK606.out 1).trans rfl, (blk_cell BK606.out 2).trans rfl, (blk_cell BK606.out 3).trans rfl, (blk_cell BK606.out 4).trans rfl, (blk_cell BK606.out 5).trans rfl, (blk_cell BK606.out 6).trans rfl, (blk_cell BK606.out 7).trans rfl, (blk_cell BK606.out 8).trans rfl, (blk_cell BK606.out 9).trans rfl, (blk_cell BK606.out 10).trans rfl, (blk_cell BK606.out 11).trans rfl⟩ (fun hHeld => ?_); refine with_tabW packet_sum.tab1 packet_sum.bits1 (fun HT_ HW_ => ?_)
 generalize w8.drew = w9 at BK606 HB hHeld ⊢
 refine pure_ (i := 0) (N := some 4) (v := ?_) (a' := ?_) #[true, false, false, false, false, false, false, false, false, false, false] rfl rfl (any_of HT_.out (by kernel_rfl)) (fun _ _ _ h => h) (Or.inl ⟨by rfl, ?_⟩) ?_ ?_
 rotate_left
 ·intro w'
  go_simp
  with_reducible rfl
 rotate_left
 ·simp only [Act.put, List.setIfInBounds_toArray, List.set_cons_zero, List.set_cons_succ, i64_w, i32_w]
  rfl
 refine pure_ (i := 3) (N := some 7) (v := ?_) (a' := ?_) #[true, false, false, true, false, false, false, false, false, false, false] rfl rfl (any_of HT_.out (by kernel_rfl)) (fun _ _ _ h => h) (Or.inl ⟨by rfl, ?_⟩) ?_ ?_
 rotate_left
 ·intro w'
  go_simp
  with_reducible rfl
 rotate_left
 ·simp only [Act.put, List.setIfInBounds_toArray, List.set_cons_zero, List.set_cons_succ, i64_w, i32_w]
  rfl
 refine pure_ (i := 7) (N := some 11) (v := ?_) (a' := ?_) #[true, false, false, true, false, false, false, true, false, false, false] rfl rfl (any_of HT_.out (by kernel_rfl)) (fun _ _ _ h => h) (Or.inl ⟨by rfl, ?_⟩) ?_ ?_
 rotate_left
 ·intro w'
  go_simp
  with_reducible rfl
 rotate_left
 ·simp only [Act.put, List.setIfInBounds_toArray, List.set_cons_zero, List.set_cons_succ, i64_w, i32_w]
  rfl
 refine take_ (i := 1) (N := some 5) (v := ?_) (a' := ?_) #[true, true, false, true, false, false, false, true, false, false, false] rfl rfl (take_ofW HT_.out HW_.out (by kernel_rfl)) (fun _ _ _ h => h) (Or.inl ⟨by rfl, ?_⟩) hHeld ?_ ?_
 rotate_left
 ·rintro w' ⟨s0, s1, s2, s3, s4, s5, s6, s7, s8, s9, s10, s11⟩
  go_simp
  with_reducible rfl
 rotate_left
 ·simp only [Act.put, List.setIfInBounds_toArray, List.set_cons_zero, List.set_cons_succ, i64_w, i32_w]
  rfl
 refine take_ (i := 4) (N := some 8) (v := ?_) (a' := ?_) #[true, true, false, true, true, false, false, true, false, false, false] rfl rfl (take_ofW HT_.out HW_.out (by kernel_rfl)) (fun _ _ _ h => h) (Or.inl ⟨by rfl, ?_⟩) hHeld ?_ ?_
 rotate_left
 ·rintro w' ⟨s0, s1, s2, s3, s4, s5, s6, s7, s8, s9, s10, s11⟩
  go_simp
  with_reducible rfl
 rotate_left
 ·simp only [Act.put, List.setIfInBounds_toArray, List.set_cons_zero, List.set_cons_succ, i64_w, i32_w]
  rfl
 refine pure_ (i := 5) (N := some 9) (v := ?_) (a' := ?_) #[true, true, false, true, true, true, false, true, false, false, false] rfl rfl (any_of HT_.out (by kernel_rfl)) (fun _ _ _ h => h) (Or.inl ⟨by rfl, ?_⟩) ?_ ?_
 rotate_left
 ·intro w'
  go_simp
  with_reducible rfl
 rotate_left
 ·simp only [Act.put, List.setIfInBounds_toArray, List.set_cons_zero, List.set_cons_succ, i64_w, i32_w]
  rfl
 refine take_ (i := 8) (N := some 12) (v := ?_) (a' := ?_) #[true, true, false, true, true, true, false, true, true, false, false] rfl rfl (take_ofW HT_.out HW_.out (by kernel_rfl)) (fun _ _ _ h => h) (Or.inl ⟨by rfl, ?_⟩) hHeld ?_ ?_
 rotate_left
 ·rintro w' ⟨s0, s1, s2, s3, s4, s5, s6, s7, s8, s9, s10, s11⟩
  go_simp
  with_reducible rfl
 rotate_left
 ·simp only [Act.put, List.setIfInBounds_toArray, List.set_cons_zero, List.set_cons_succ, i64_w, i32_w]
  rfl
 refine one_ (i := 2) (N := some 6) #[true, true, true, true, true, true, false, true, true, false, false] rfl rfl (one_of HT_.out (by kernel_rfl)) (by decide) (fun K hK => ?_)
 refine goes_ Try.func51 (by kernel_rfl) rfl #[.agg #[.bool a0_0, .bool false, .bool a0_2, .int .i64 a0_3, .int .u16 a0_4, .int .u32 a0_5, .int .u32 a0_6, .slice A0_7 l0_7.length c0_7]] (by rfl) rfl rfl (by (try simp only [List.map_toArray, List.map_cons, List.map_nil]); first | done | rfl | (simp only [List.length_drop, List.length_take]; rfl)) ?_
 with_reducible refine (head_Size.calls a0_0 false a0_2 a0_3 a0_4 a0_5 a0_6 _ _ l0_7 t607 _ ?side1 ?side2 A2.out).mono ?_
 (case side1 => exact cbE HR0_7 HB)
 (case side2 => exact HC0_7.out)
 rintro e w10 ⟨rfl, hb⟩
 refine ⟨_, rfl, ?_⟩
 replace BK606 := bbE BK606 hb
 replace HB := bstE HB hb
 (try clear hb)
 (try clear hb2)
 (try clear hk)
 (try clear hi)
 refine hK.out _ _ ⟨(blk_cell BK606.out 0).trans rfl, (blk_cell BK606.out 1).trans rfl, (blk_cell BK606.out 2).trans rfl, (blk_cell BK606.out 3).trans rfl, (blk_cell BK606.out 4).trans rfl, (blk_cell BK606.out 5).trans rfl, (blk_cell BK606.out 6).trans rfl, (blk_cell BK606.out 7).trans rfl, (blk_cell BK606.out 8).trans rfl, (blk_cell BK606.out 9).trans rfl, (blk_cell BK606.out 10).trans rfl, (blk_cell BK606.out 11).trans rfl⟩ (fun hHeld => ?_)
 clear hK K
 refine norm_ (a' := ?_) ?_ ?_
 rotate_left
 ·show Act.put _ (some 6) _ = _
  simp only [Act.put, List.setIfInBounds_toArray, List.set_cons_zero, List.set_cons_succ, i64_w, i32_w]
  rfl
 refine pure_ (i := 6) (N := some 10) (v := ?_) (a' := ?_) #[true, true, true, true, true, true, true, true, true, false, false] rfl rfl (any_of HT_.out (by kernel_rfl)) (fun _ _ _ h => h) (Or.inl ⟨by rfl, ?_⟩) ?_ ?_
 rotate_left
 ·intro w'
  go_simp
  with_reducible rfl
 rotate_left
 ·simp only [Act.put, List.setIfInBounds_toArray, List.set_cons_zero, List.set_cons_succ, i64_w, i32_w]
  rfl
 refine pure_ (i := 9) (N := some 13) (v := ?_) (a' := ?_) #[true, true, true, true, true, true, true, true, true, true, false] rfl rfl (any_of HT_.out (by kernel_rfl)) (fun _ _ _ h => h) (Or.inl ⟨by rfl, ?_⟩) ?_ ?_
 rotate_left
 ·intro w'
  go_simp
  with_reducible rfl
 rotate_left
 ·simp only [Act.put, List.setIfInBounds_toArray, List.set_cons_zero, List.set_cons_succ, i64_w, i32_w]
  rfl
 refine pure_ (i := 10) (N := some 3) (v := ?_) (a' := ?_) #[true, true, true, true, true, true, true, true, true, true, true] rfl rfl (any_of HT_.out (by kernel_rfl)) (fun _ _ _ h => h) (Or.inl ⟨by rfl, ?_⟩) ?_ ?_
 rotate_left
 ·intro w'
  go_simp
  with_reducible rfl
 rotate_left
 ·simp only [Act.put, List.setIfInBounds_toArray, List.set_cons_zero, List.set_cons_succ, i64_w, i32_w]
  rfl
 refine done_ (done_of HT_.out (by kernel_rfl)) ?_
 obtain ⟨Z11_0, Z11_1, Z11_2, Z11_3, Z11_4, Z11_5, Z11_6, Z11_7, Z11_8, Z11_9, Z11_10, Z11_11, Y11_0, Y11_1, Y11_2, Y11_3, Y11_4, Y11_5, Y11_6, Y11_7, Y11_8, Y11_9, Y11_10, Y11_11⟩ := bc12 BK606.out
 try go_wp2
 go_ret
 exact ⟨by first | rfl | (simp [errW_none, errW_some] <;> rfl) | (simp [*, errW_none, errW_some] <;> rfl), by repeat (first | (with_reducible first | exact HB.out | apply below_alloc | apply pw_below_drewN | apply below_drew1 | refine below_set ?_ GE606.out) | exact HB.out)⟩
mutual
def packet_fits.j0 : Nat → Bool → Bool → Bool → Bool → Int → Int → Int → Int → List Int → Int → List Int → List Int → Int → Option (Bool)
 | 0, _, _, _, _, _, _, _, _, _, _, _, _, _ => none
 | k + 1, x20, x609000, x609001, x609002, x609003, x609004, x609005, x609006, x609007, x609008, x609009, x609010, x609011 => if x20 = true then (some false) else (if x609001 = true then (packet_fits.j1 k false x609000 x609001 x609002 x609003 x609004 x609005 x609006 x609007 x609008 x609009 x609010 x609011) else (if x609008 = 0 then (packet_fits.j1 k ((x609009.length : Int) != 0) x609000 x609001 x609002 x609003 x609004 x609005 x609006 x609007 x609008 x609009 x609010 x609011) else (packet_fits.j1 k true x609000 x609001 x609002 x609003 x609004 x609005 x609006 x609007 x609008 x609009 x609010 x609011)))
def packet_fits.j1 : Nat → Bool → Bool → Bool → Bool → Int → Int → Int → Int → List Int → Int → List Int → List Int → Int → Option (Bool)
 | 0, _, _, _, _, _, _, _, _, _, _, _, _, _ => none
 | k + 1, x35, x609000, x609001, x609002, x609003, x609004, x609005, x609006, x609007, x609008, x609009, x609010, x609011 => if x35 = true then (some false) else (if x609000 = true then (if x609011 ≥ 1 then (some (decide (x609011 ≤ 255))) else (some false)) else (some (x609011 == 0)))
end
def packet_fits.f (k : Nat) (a0_0 : Bool) (a0_1 : Bool) (a0_2 : Bool) (a0_3 : Int) (a0_4 : Int) (a0_5 : Int) (a0_6 : Int) (l0_7 : List Int) (a0_8 : Int) (l0_9 : List Int) (l0_10 : List Int) (a0_11 : Int) : Option (Bool) := (head_Right.f a0_0 a0_1 a0_2 a0_3 a0_4 a0_5 a0_6 l0_7).bind fun t609 => (if t609 = true then (if ((l0_9.length : Int) % 4) = 0 then (packet_fits.j0 k (decide ((wrap64 ((l0_9.length : Int) / 4)) > 65535)) a0_0 a0_1 a0_2 a0_3 a0_4 a0_5 a0_6 l0_7 a0_8 l0_9 l0_10 a0_11) else (packet_fits.j0 k true a0_0 a0_1 a0_2 a0_3 a0_4 a0_5 a0_6 l0_7 a0_8 l0_9 l0_10 a0_11)) else (packet_fits.j0 k true a0_0 a0_1 a0_2 a0_3 a0_4 a0_5 a0_6 l0_7 a0_8 l0_9 l0_10 a0_11))
theorem packet_fits.mono_l : ∀ k, (∀ y0 y1 y2 y3 y4 y5 y6 y7 y8 y9 y10 y11 y12, LeO (packet_fits.j0 k y0 y1 y2 y3 y4 y5 y6 y7 y8 y9 y10 y11 y12) (packet_fits.j0 (k + 1) y0 y1 y2 y3 y4 y5 y6 y7 y8 y9 y10 y11 y12)) ∧ (∀ y0 y1 y2 y3 y4 y5 y6 y7 y8 y9 y10 y11 y12, LeO (packet_fits.j1 k y0 y1 y2 y3 y4 y5 y6 y7 y8 y9 y10 y11 y12) (packet_fits.j1 (k + 1) y0 y1 y2 y3 y4 y5 y6 y7 y8 y9 y10 y11 y12))
 | 0 => ⟨fun _ _ _ _ _ _ _ _ _ _ _ _ _ r h => by simp [packet_fits.j0] at h, fun _ _ _ _ _ _ _ _ _ _ _ _ _ r h => by simp [packet_fits.j1] at h⟩
 | k + 1 => by
  obtain ⟨ih0, ih1⟩ := packet_fits.mono_l k
  refine ⟨?_, ?_⟩
  ·intro y0 y1 y2 y3 y4 y5 y6 y7 y8 y9 y10 y11 y12
   unfold packet_fits.j0
   repeat' first
   | (with_reducible exact ih0 _ _ _ _ _ _ _ _ _ _ _ _ _)
   | (with_reducible exact ih1 _ _ _ _ _ _ _ _ _ _ _ _ _)
   | (with_reducible exact LeO.refl _)
   | (with_reducible exact LeO.none _)
   | (with_reducible refine LeO.ite ?_ ?_)
   | (with_reducible refine LeO.bind ?_ (fun _ => ?_))
   | exact ih0 _ _ _ _ _ _ _ _ _ _ _ _ _
   | exact ih1 _ _ _ _ _ _ _ _ _ _ _ _ _
   | exact LeO.none _
   | refine LeO.ite ?_ ?_
   | refine LeO.bind ?_ (fun _ => ?_)
  intro y0 y1 y2 y3 y4 y5 y6 y7 y8 y9 y10 y11 y12
  unfold packet_fits.j1
  repeat' first
  | (with_reducible exact ih0 _ _ _ _ _ _ _ _ _ _ _ _ _)
  | (with_reducible exact ih1 _ _ _ _ _ _ _ _ _ _ _ _ _)
  | (with_reducible exact LeO.refl _)
  | (with_reducible exact LeO.none _)
  | (with_reducible refine LeO.ite ?_ ?_)
  | (with_reducible refine LeO.bind ?_ (fun _ => ?_))
  | exact ih0 _ _ _ _ _ _ _ _ _ _ _ _ _
  | exact ih1 _ _ _ _ _ _ _ _ _ _ _ _ _
  | exact LeO.none _
  | refine LeO.ite ?_ ?_
  | refine LeO.bind ?_ (fun _ => ?_)
theorem packet_fits.mono : ∀ a0 a1 a2 a3 a4 a5 a6 a7 a8 a9 a10 a11 k, LeO (packet_fits.f k a0 a1 a2 a3 a4 a5 a6 a7 a8 a9 a10 a11) (packet_fits.f (k + 1) a0 a1 a2 a3 a4 a5 a6 a7 a8 a9 a10 a11) := by
 intro a0 a1 a2 a3 a4 a5 a6 a7 a8 a9 a10 a11 k
 obtain ⟨ih0, ih1⟩ := packet_fits.mono_l k
 unfold packet_fits.f
 repeat' first
   | (with_reducible exact ih0 _ _ _ _ _ _ _ _ _ _ _ _ _)
   | (with_reducible exact ih1 _ _ _ _ _ _ _ _ _ _ _ _ _)
   | (with_reducible exact LeO.refl _)
   | (with_reducible exact LeO.none _)
   | (with_reducible refine LeO.ite ?_ ?_)
   | (with_reducible refine LeO.bind ?_ (fun _ => ?_))
   | exact ih0 _ _ _ _ _ _ _ _ _ _ _ _ _
   | exact ih1 _ _ _ _ _ _ _ _ _ _ _ _ _
   | exact LeO.none _
   | refine LeO.ite ?_ ?_
   | refine LeO.bind ?_ (fun _ => ?_)
set_option maxHeartbeats 8000000 in
set_option maxRecDepth 100000 in
theorem packet_fits.calls (k : Nat) (a0_0 : Bool) (a0_1 : Bool) (a0_2 : Bool) (a0_3 : Int) (a0_4 : Int) (a0_5 : Int) (a0_6 : Int) (A0_7 : Option Addr) (c0_7 : Nat) (l0_7 : List Int) (a0_8 : Int) (A0_9 : Option Addr) (c0_9 : Nat) (l0_9 : List Int) (A0_10 : Option Addr) (c0_10 : Nat) (l0_10 : List Int) (a0_11 : Int) (r : Bool) (w : World) (hr0_7 : Kd.C (Kd.int .u32) w A0_7 l0_7.length l0_7) (hc0_7 : l0_7.length ≤ c0_7) (hr0_9 : Kd.C (Kd.int .u8) w A0_9 l0_9.length l0_9) (hc0_9 : l0_9.length ≤ c0_9) (hr0_10 : Kd.C (Kd.int .u8) w A0_10 l0_10.length l0_10) (hc0_10 : l0_10.length ≤ c0_10) (h : packet_fits.f k a0_0 a0_1 a0_2 a0_3 a0_4 a0_5 a0_6 l0_7 a0_8 l0_9 l0_10 a0_11 = some r) :
  Calls Try.prog 45 #[.agg #[.bool a0_0, .bool a0_1, .bool a0_2, .int .i64 a0_3, .int .u16 a0_4, .int .u32 a0_5, .int .u32 a0_6, .slice A0_7 l0_7.length c0_7, .int .u16 a0_8, .slice A0_9 l0_9.length c0_9, .slice A0_10 l0_10.length c0_10, .int .i64 a0_11]] w fun e w' => e = .returned (.bool r) ∧ Below w.heap.size w w' := by
 have hu45 := Try.underlying45
 have hu43 := Try.underlying43
 have HR0_7 := Aside0.mk hr0_7
 have HC0_7 := Aside0.mk hc0_7
 clear hr0_7 hc0_7
 have HR0_9 := Aside0.mk hr0_9
 have HC0_9 := Aside0.mk hc0_9
 clear hr0_9 hc0_9
 have HR0_10 := Aside0.mk hr0_10
 have HC0_10 := Aside0.mk hc0_10
 clear hr0_10 hc0_10
 have HB := Aside0.mk (Below.refl w.heap.size w)
 have H : ((head_Right.f a0_0 a0_1 a0_2 a0_3 a0_4 a0_5 a0_6 l0_7).bind fun t609 => (if t609 = true then (if ((l0_9.length : Int) % 4) = 0 then (packet_fits.j0 k (decide ((wrap64 ((l0_9.length : Int) / 4)) > 65535)) a0_0 a0_1 a0_2 a0_3 a0_4 a0_5 a0_6 l0_7 a0_8 l0_9 l0_10 a0_11) else (packet_fits.j0 k true a0_0 a0_1 a0_2 a0_3 a0_4 a0_5 a0_6 l0_7 a0_8 l0_9 l0_10 a0_11)) else (packet_fits.j0 k true a0_0 a0_1 a0_2 a0_3 a0_4 a0_5 a0_6 l0_7 a0_8 l0_9 l0_10 a0_11))) = some r := h
 clear h
 have HC2 := Aside0.mk H
 clear H
 go_enter Try.func45, Try.ntmps45
 go_upto_region 1 with (first | ((with_reducible refine gate_dst (N := 1) rfl ?_); (try (refine gate_guard (by rfl) ?_; dsimp only)); refine box_event ?hg (N := 1) ?hd (cs := #[.bool a0_0, .bool a0_1, .bool a0_2, .int .i64 a0_3, .int .u16 a0_4, .int .u32 a0_5, .int .u32 a0_6, .slice A0_7 l0_7.length c0_7, .int .u16 a0_8, .slice A0_9 l0_9.length c0_9, .slice A0_10 l0_10.length c0_10, .int .i64 a0_11]) (t := 45) ?hr ?_; (case hd => rfl); (case hg => rfl); (case hr => first | (go_simp; done) | (go_simp; rfl)); intro gb608 hg w3 hbox hb; have n0_ := bstE HB hb; have BK608 := Aside0.mk (hbox); have GW608 := geE hg HB; have GE608 := geE hg HB; clear HB; have HB := n0_; clear n0_; clear hb hbox hg))
 (try simp only [Act.put, List.setIfInBounds_toArray, List.set_cons_zero, List.set_cons_succ])
 go_cut [20] (fun v20 wc => ∃ (kq : Nat) (x20_1 : Bool), v20 = .bool x20_1 ∧ Aside0 (packet_fits.j0 kq x20_1 a0_0 a0_1 a0_2 a0_3 a0_4 a0_5 a0_6 l0_7 a0_8 l0_9 l0_10 a0_11 = some r) ∧ Aside0 (kq ≤ k) ∧ Aside0 (wc.heap[gb608]? = some (.cells #[.bool a0_0, .bool a0_1, .bool a0_2, .int .i64 a0_3, .int .u16 a0_4, .int .u32 a0_5, .int .u32 a0_6, (.slice A0_7 l0_7.length c0_7), .int .u16 a0_8, (.slice A0_9 l0_9.length c0_9), (.slice A0_10 l0_10.length c0_10), .int .i64 a0_11] 45 (0, 0))) ∧ Aside0 (Below w.heap.size w wc))
 case first =>
  have H := HC2.out
  clear HC2
  replace H := Option.bind_eq_some_iff.mp H
  obtain ⟨t609, A40, H⟩ := H
  replace H : (if t609 = true then (if ((l0_9.length : Int) % 4) = 0 then (packet_fits.j0 k (decide ((wrap64 ((l0_9.length : Int) / 4)) > 65535)) a0_0 a0_1 a0_2 a0_3 a0_4 a0_5 a0_6 l0_7 a0_8 l0_9 l0_10 a0_11) else (packet_fits.j0 k true a0_0 a0_1 a0_2 a0_3 a0_4 a0_5 a0_6 l0_7 a0_8 l0_9 l0_10 a0_11)) else (packet_fits.j0 k true a0_0 a0_1 a0_2 a0_3 a0_4 a0_5 a0_6 l0_7 a0_8 l0_9 l0_10 a0_11)) = some r := H
  have A4 := Aside0.mk A40
  clear A40
  by_cases c5 : t609 = true
  ·subst c5
   have H1 : (if ((l0_9.length : Int) % 4) = 0 then (packet_fits.j0 k (decide ((wrap64 ((l0_9.length : Int) / 4)) > 65535)) a0_0 a0_1 a0_2 a0_3 a0_4 a0_5 a0_6 l0_7 a0_8 l0_9 l0_10 a0_11) else (packet_fits.j0 k true a0_0 a0_1 a0_2 a0_3 a0_4 a0_5 a0_6 l0_7 a0_8 l0_9 l0_10 a0_11)) = some r := by rw [if_pos rfl] at H; exact H
   clear H
   have H := H1
   clear H1
   by_cases c6 : ((l0_9.length : Int) % 4) = 0
   ·rw [if_pos c6] at H
    have c6b0 : (((l0_9.length : Int) % 4) == 0) = true := beq_iff_eq.mpr c6
    have c6b1 : (((l0_9.length : Int) % 4) != 0) = false := bne_eq_false_iff_eq.mpr c6
    clear c6
    (first | rw [c6b0] | (simp only [i64_w, i32_w]; rw [c6b0]) | rw [c6b1] | skip)
    have H' := Aside0.mk H
    clear H
    obtain ⟨Z7_0, Z7_1, Z7_2, Z7_3, Z7_4, Z7_5, Z7_6, Z7_7, Z7_8, Z7_9, Z7_10, Z7_11, Y7_0, Y7_1, Y7_2, Y7_3, Y7_4, Y7_5, Y7_6, Y7_7, Y7_8, Y7_9, Y7_10, Y7_11⟩ := bc12 BK608.out
    go_wp2_with (first | ((with_reducible refine gate_callee (f := 52) rfl ?_); refine goesL_ (some 5) rfl rfl Try.func52 (by kernel_rfl) rfl #[.agg #[.bool a0_0, .bool a0_1, .bool a0_2, .int .i64 a0_3, .int .u16 a0_4, .int .u32 a0_5, .int .u32 a0_6, .slice A0_7 l0_7.length c0_7]] rfl (by (try simp only [List.map_toArray, List.map_cons, List.map_nil]); first | done | rfl | (simp only [List.length_drop, List.length_take]; rfl)) ?_; (with_reducible refine (head_Right.calls a0_0 a0_1 a0_2 a0_3 a0_4 a0_5 a0_6 _ _ l0_7 true _ ?side1 ?side2 A4.out).mono ?_); (case side1 => exact cbE HR0_7 HB); (case side2 => exact HC0_7.out); rintro e w8 ⟨rfl, hb⟩; refine ⟨_, rfl, ?_⟩; replace BK608 := bbE BK608 hb; replace HB := bstE HB hb; (try clear hb); (try clear hb2); (try clear hk); (try clear hi); obtain ⟨Z9_0, Z9_1, Z9_2, Z9_3, Z9_4, Z9_5, Z9_6, Z9_7, Z9_8, Z9_9, Z9_10, Z9_11, Y9_0, Y9_1, Y9_2, Y9_3, Y9_4, Y9_5, Y9_6, Y9_7, Y9_8, Y9_9, Y9_10, Y9_11⟩ := bc12 BK608.out))
    go_meet
    case rel => exact ⟨_, (decide ((wrap64 ((l0_9.length : Int) / 4)) > 65535)), (by first | rfl | (simp; done) | (simp [*]; done)), H', ⟨by first | omega | exact Nat.le_refl _⟩, ⟨by (with_reducible repeat (first | refine blk_drewN ?_ _ | refine blk_drew ?_ | refine blk_alloc ?_ _)); exact BK608.out⟩, ⟨by repeat (first | (with_reducible first | exact HB.out | apply below_alloc | apply pw_below_drewN | apply below_drew1 | refine below_set ?_ GE608.out) | exact HB.out)⟩⟩
   rw [if_neg c6] at H
   have c6b0 : (((l0_9.length : Int) % 4) == 0) = false := beq_eq_false_iff_ne.mpr c6
   have c6b1 : (((l0_9.length : Int) % 4) != 0) = true := bne_iff_ne.mpr c6
   (first | rw [c6b0] | (simp only [i64_w, i32_w]; rw [c6b0]) | rw [c6b1] | skip)
   have H' := Aside0.mk H
   clear H
   obtain ⟨Z10_0, Z10_1, Z10_2, Z10_3, Z10_4, Z10_5, Z10_6, Z10_7, Z10_8, Z10_9, Z10_10, Z10_11, Y10_0, Y10_1, Y10_2, Y10_3, Y10_4, Y10_5, Y10_6, Y10_7, Y10_8, Y10_9, Y10_10, Y10_11⟩ := bc12 BK608.out
   go_wp2_with (first | ((with_reducible refine gate_callee (f := 52) rfl ?_); refine goesL_ (some 5) rfl rfl Try.func52 (by kernel_rfl) rfl #[.agg #[.bool a0_0, .bool a0_1, .bool a0_2, .int .i64 a0_3, .int .u16 a0_4, .int .u32 a0_5, .int .u32 a0_6, .slice A0_7 l0_7.length c0_7]] rfl (by (try simp only [List.map_toArray, List.map_cons, List.map_nil]); first | done | rfl | (simp only [List.length_drop, List.length_take]; rfl)) ?_; (with_reducible refine (head_Right.calls a0_0 a0_1 a0_2 a0_3 a0_4 a0_5 a0_6 _ _ l0_7 true _ ?side1 ?side2 A4.out).mono ?_); (case side1 => exact cbE HR0_7 HB); (case side2 => exact HC0_7.out); rintro e w11 ⟨rfl, hb⟩; refine ⟨_, rfl, ?_⟩; replace BK608 := bbE BK608 hb; replace HB := bstE HB hb; (try clear hb); (try clear hb2); (try clear hk); (try clear hi); obtain ⟨Z12_0, Z12_1, Z12_2, Z12_3, Z12_4, Z12_5, Z12_6, Z12_7, Z12_8, Z12_9, Z12_10, Z12_11, Y12_0, Y12_1, Y12_2, Y12_3, Y12_4, Y12_5, Y12_6, Y12_7, Y12_8, Y12_9, Y12_10, Y12_11⟩ := bc12 BK608.out))
   go_meet
   case rel => exact ⟨_, (true), (by first | rfl | (simp; done) | (simp [*]; done)), H', ⟨by first | omega | exact Nat.le_refl _⟩, ⟨by (with_reducible repeat (first | refine blk_drewN ?_ _ | refine blk_drew ?_ | refine blk_alloc ?_ _)); exact BK608.out⟩, ⟨by repeat (first | (with_reducible first | exact HB.out | apply below_alloc | apply pw_below_drewN | apply below_drew1 | refine below_set ?_ GE608.out) | exact HB.out)⟩⟩
  replace c5 := Bool.eq_false_iff.mpr c5
  subst c5
  have H1 : (packet_fits.j0 k true a0_0 a0_1 a0_2 a0_3 a0_4 a0_5 a0_6 l0_7 a0_8 l0_9 l0_10 a0_11) = some r := by rw [if_neg (show ¬ (false = true) by decide)] at H; exact H
  clear H
  have H := H1
  clear H1
  have H' := Aside0.mk H
  clear H
  obtain ⟨Z13_0, Z13_1, Z13_2, Z13_3, Z13_4, Z13_5, Z13_6, Z13_7, Z13_8, Z13_9, Z13_10, Z13_11, Y13_0, Y13_1, Y13_2, Y13_3, Y13_4, Y13_5, Y13_6, Y13_7, Y13_8, Y13_9, Y13_10, Y13_11⟩ := bc12 BK608.out
  go_wp2_with (first | ((with_reducible refine gate_callee (f := 52) rfl ?_); refine goesL_ (some 5) rfl rfl Try.func52 (by kernel_rfl) rfl #[.agg #[.bool a0_0, .bool a0_1, .bool a0_2, .int .i64 a0_3, .int .u16 a0_4, .int .u32 a0_5, .int .u32 a0_6, .slice A0_7 l0_7.length c0_7]] rfl (by (try simp only [List.map_toArray, List.map_cons, List.map_nil]); first | done | rfl | (simp only [List.length_drop, List.length_take]; rfl)) ?_; (with_reducible refine (head_Right.calls a0_0 a0_1 a0_2 a0_3 a0_4 a0_5 a0_6 _ _ l0_7 false _ ?side1 ?side2 A4.out).mono ?_); (case side1 => exact cbE HR0_7 HB); (case side2 => exact HC0_7.out); rintro e w14 ⟨rfl, hb⟩; refine ⟨_, rfl, ?_⟩; replace BK608 := bbE BK608 hb; replace HB := bstE HB hb; (try clear hb); (try clear hb2); (try clear hk); (try clear hi)))
  go_meet
  case rel => exact ⟨_, (true), (by first | rfl | (simp; done) | (simp [*]; done)), H', ⟨by first | omega | exact Nat.le_refl _⟩, ⟨by (with_reducible repeat (first | refine blk_drewN ?_ _ | refine blk_drew ?_ | refine blk_alloc ?_ _)); exact BK608.out⟩, ⟨by repeat (first | (with_reducible first | exact HB.out | apply below_alloc | apply pw_below_drewN | apply below_drew1 | refine below_set ?_ GE608.out) | exact HB.out)⟩⟩
 case rest =>
  clear HC2
  try clear p2
  try clear c4
  try clear c5
  try clear c6
  try clear c6b0
  try clear c6b1
  try clear p6
  try clear Z10_0 Z10_1 Z10_10 Z10_11 Z10_2 Z10_3 Z10_4 Z10_5 Z10_6 Z10_7 Z10_8 Z10_9
  try clear Z12_0 Z12_1 Z12_10 Z12_11 Z12_2 Z12_3 Z12_4 Z12_5 Z12_6 Z12_7 Z12_8 Z12_9
  try clear Z13_0 Z13_1 Z13_10 Z13_11 Z13_2 Z13_3 Z13_4 Z13_5 Z13_6 Z13_7 Z13_8 Z13_9
  try clear Z7_0 Z7_1 Z7_10 Z7_11 Z7_2 Z7_3 Z7_4 Z7_5 Z7_6 Z7_7 Z7_8 Z7_9
  try clear Z9_0 Z9_1 Z9_10 Z9_11 Z9_2 Z9_3 Z9_4 Z9_5 Z9_6 Z9_7 Z9_8 Z9_9
  try clear Y10_0 Y10_1 Y10_10 Y10_11 Y10_2 Y10_3 Y10_4 Y10_5 Y10_6 Y10_7 Y10_8 Y10_9
  try clear Y12_0 Y12_1 Y12_10 Y12_11 Y12_2 Y12_3 Y12_4 Y12_5 Y12_6 Y12_7 Y12_8 Y12_9
  try clear Y13_0 Y13_1 Y13_10 Y13_11 Y13_2 Y13_3 Y13_4 Y13_5 Y13_6 Y13_7 Y13_8 Y13_9
  try clear Y7_0 Y7_1 Y7_10 Y7_11 Y7_2 Y7_3 Y7_4 Y7_5 Y7_6 Y7_7 Y7_8 Y7_9
  try clear Y9_0 Y9_1 Y9_10 Y9_11 Y9_2 Y9_3 Y9_4 Y9_5 Y9_6 Y9_7 Y9_8 Y9_9
  obtain ⟨kq, x20_1, rfl, HA, HJ1, BK608, HB⟩ := hcut
  cases kq with
  | zero => exact absurd HA.out (by simp [packet_fits.j0])
  | succ kj1 =>
   have H := HA.out
   clear HA
   simp only [packet_fits.j0] at H
   by_cases c15 : x20_1 = true
   ·subst c15
    have H1 : (some false) = some r := by rw [if_pos rfl] at H; exact H
    clear H
    have H := H1
    clear H1
    obtain rfl := Option.some.inj H
    go_wp2
    go_ret
    exact ⟨by first | rfl | (simp [errW_none, errW_some] <;> rfl) | (simp [*, errW_none, errW_some] <;> rfl), by repeat (first | (with_reducible first | exact HB.out | apply below_alloc | apply pw_below_drewN | apply below_drew1 | refine below_set ?_ GE608.out) | exact HB.out)⟩
   replace c15 := Bool.eq_false_iff.mpr c15
   subst c15
   have H1 : (if a0_1 = true then (packet_fits.j1 kj1 false a0_0 a0_1 a0_2 a0_3 a0_4 a0_5 a0_6 l0_7 a0_8 l0_9 l0_10 a0_11) else (if a0_8 = 0 then (packet_fits.j1 kj1 ((l0_9.length : Int) != 0) a0_0 a0_1 a0_2 a0_3 a0_4 a0_5 a0_6 l0_7 a0_8 l0_9 l0_10 a0_11) else (packet_fits.j1 kj1 true a0_0 a0_1 a0_2 a0_3 a0_4 a0_5 a0_6 l0_7 a0_8 l0_9 l0_10 a0_11))) = some r := by rw [if_neg (show ¬ (false = true) by decide)] at H; exact H
   clear H
   have H := H1
   clear H1
   have HC16 := Aside0.mk H
   clear H
   go_upto_region 3 with (fail)
   go_cut [35] (fun v35 wc => ∃ (kq : Nat) (x35_15 : Bool), v35 = .bool x35_15 ∧ Aside0 (packet_fits.j1 kq x35_15 a0_0 a0_1 a0_2 a0_3 a0_4 a0_5 a0_6 l0_7 a0_8 l0_9 l0_10 a0_11 = some r) ∧ Aside0 (kq ≤ kj1) ∧ Aside0 (wc.heap[gb608]? = some (.cells #[.bool a0_0, .bool a0_1, .bool a0_2, .int .i64 a0_3, .int .u16 a0_4, .int .u32 a0_5, .int .u32 a0_6, (.slice A0_7 l0_7.length c0_7), .int .u16 a0_8, (.slice A0_9 l0_9.length c0_9), (.slice A0_10 l0_10.length c0_10), .int .i64 a0_11] 45 (0, 0))) ∧ Aside0 (Below w.heap.size w wc))
   case first =>
    have H := HC16.out
    clear HC16
    by_cases c17 : a0_1 = true
    ·subst c17
     have H1 : (packet_fits.j1 kj1 false a0_0 true a0_2 a0_3 a0_4 a0_5 a0_6 l0_7 a0_8 l0_9 l0_10 a0_11) = some r := by rw [if_pos rfl] at H; exact H
     clear H
     have H := H1
     clear H1
     have H' := Aside0.mk H
     clear H
     obtain ⟨Z18_0, Z18_1, Z18_2, Z18_3, Z18_4, Z18_5, Z18_6, Z18_7, Z18_8, Z18_9, Z18_10, Z18_11, Y18_0, Y18_1, Y18_2, Y18_3, Y18_4, Y18_5, Y18_6, Y18_7, Y18_8, Y18_9, Y18_10, Y18_11⟩ := bc12 BK608.out
     go_wp2
     go_meet
     case rel => exact ⟨_, (false), (by first | rfl | (simp; done) | (simp [*]; done)), H', ⟨by have := HJ1.out; first | omega | exact Nat.le_refl _⟩, ⟨by (with_reducible repeat (first | refine blk_drewN ?_ _ | refine blk_drew ?_ | refine blk_alloc ?_ _)); exact BK608.out⟩, ⟨by repeat (first | (with_reducible first | exact HB.out | apply below_alloc | apply pw_below_drewN | apply below_drew1 | refine below_set ?_ GE608.out) | exact HB.out)⟩⟩
    replace c17 := Bool.eq_false_iff.mpr c17
    subst c17
    have H1 : (if a0_8 = 0 then (packet_fits.j1 kj1 ((l0_9.length : Int) != 0) a0_0 false a0_2 a0_3 a0_4 a0_5 a0_6 l0_7 a0_8 l0_9 l0_10 a0_11) else (packet_fits.j1 kj1 true a0_0 false a0_2 a0_3 a0_4 a0_5 a0_6 l0_7 a0_8 l0_9 l0_10 a0_11)) = some r := by rw [if_neg (show ¬ (false = true) by decide)] at H; exact H
    clear H
    have H := H1
    clear H1
    by_cases c19 : a0_8 = 0
    ·rw [if_pos c19] at H
     have c19b0 : (a0_8 == 0) = true := beq_iff_eq.mpr c19
     have c19b1 : (a0_8 != 0) = false := bne_eq_false_iff_eq.mpr c19
     clear c19
     (first | rw [c19b0] | (simp only [i64_w, i32_w]; rw [c19b0]) | rw [c19b1] | skip)
     have H' := Aside0.mk H
     clear H
     obtain ⟨Z20_0, Z20_1, Z20_2, Z20_3, Z20_4, Z20_5, Z20_6, Z20_7, Z20_8, Z20_9, Z20_10, Z20_11, Y20_0, Y20_1, Y20_2, Y20_3, Y20_4, Y20_5, Y20_6, Y20_7, Y20_8, Y20_9, Y20_10, Y20_11⟩ := bc12 BK608.out
     go_wp2
     go_meet
     case rel => exact ⟨_, (((l0_9.length : Int) != 0)), (by first | rfl | (simp; done) | (simp [*]; done)), H', ⟨by have := HJ1.out; first | omega | exact Nat.le_refl _⟩, ⟨by (with_reducible repeat (first | refine blk_drewN ?_ _ | refine blk_drew ?_ | refine blk_alloc ?_ _)); exact BK608.out⟩, ⟨by repeat (first | (with_reducible first | exact HB.out | apply below_alloc | apply pw_below_drewN | apply below_drew1 | refine below_set ?_ GE608.out) | exact HB.out)⟩⟩
    rw [if_neg c19] at H
    have c19b0 : (a0_8 == 0) = false := beq_eq_false_iff_ne.mpr c19
    have c19b1 : (a0_8 != 0) = true := bne_iff_ne.mpr c19
    (first | rw [c19b0] | (simp only [i64_w, i32_w]; rw [c19b0]) | rw [c19b1] | skip)
    have H' := Aside0.mk H
    clear H
    obtain ⟨Z21_0, Z21_1, Z21_2, Z21_3, Z21_4, Z21_5, Z21_6, Z21_7, Z21_8, Z21_9, Z21_10, Z21_11, Y21_0, Y21_1, Y21_2, Y21_3, Y21_4, Y21_5, Y21_6, Y21_7, Y21_8, Y21_9, Y21_10, Y21_11⟩ := bc12 BK608.out
    go_wp2
    go_meet
    case rel => exact ⟨_, (true), (by first | rfl | (simp; done) | (simp [*]; done)), H', ⟨by have := HJ1.out; first | omega | exact Nat.le_refl _⟩, ⟨by (with_reducible repeat (first | refine blk_drewN ?_ _ | refine blk_drew ?_ | refine blk_alloc ?_ _)); exact BK608.out⟩, ⟨by repeat (first | (with_reducible first | exact HB.out | apply below_alloc | apply pw_below_drewN | apply below_drew1 | refine below_set ?_ GE608.out) | exact HB.out)⟩⟩
   case rest =>
    clear HC16
    try clear c1
    try clear p2
    try clear c4
    try clear c5
    try clear c6
    try clear c6b0
    try clear c6b1
    try clear p6
    try clear c15
    try clear c17
    try clear c19
    try clear c19b0
    try clear c19b1
    try clear Z10_0 Z10_1 Z10_10 Z10_11 Z10_2 Z10_3 Z10_4 Z10_5 Z10_6 Z10_7 Z10_8 Z10_9
    try clear Z12_0 Z12_1 Z12_10 Z12_11 Z12_2 Z12_3 Z12_4 Z12_5 Z12_6 Z12_7 Z12_8 Z12_9
    try clear Z13_0 Z13_1 Z13_10 Z13_11 Z13_2 Z13_3 Z13_4 Z13_5 Z13_6 Z13_7 Z13_8 Z13_9
    try clear Z18_0 Z18_1 Z18_10 Z18_11 Z18_2 Z18_3 Z18_4 Z18_5 Z18_6 Z18_7 Z18_8 Z18_9
    try clear Z20_0 Z20_1 Z20_10 Z20_11 Z20_2 Z20_3 Z20_4 Z20_5 Z20_6 Z20_7 Z20_8 Z20_9
    try clear Z21_0 Z21_1 Z21_10 Z21_11 Z21_2 Z21_3 Z21_4 Z21_5 Z21_6 Z21_7 Z21_8 Z21_9
    try clear Z7_0 Z7_1 Z7_10 Z7_11 Z7_2 Z7_3 Z7_4 Z7_5 Z7_6 Z7_7 Z7_8 Z7_9
    try clear Z9_0 Z9_1 Z9_10 Z9_11 Z9_2 Z9_3 Z9_4 Z9_5 Z9_6 Z9_7 Z9_8 Z9_9
    try clear Y10_0 Y10_1 Y10_10 Y10_11 Y10_2 Y10_3 Y10_4 Y10_5 Y10_6 Y10_7 Y10_8 Y10_9
    try clear Y12_0 Y12_1 Y12_10 Y12_11 Y12_2 Y12_3 Y12_4 Y12_5 Y12_6 Y12_7 Y12_8 Y12_9
    try clear Y13_0 Y13_1 Y13_10 Y13_11 Y13_2 Y13_3 Y13_4 Y13_5 Y13_6 Y13_7 Y13_8 Y13_9
    try clear Y18_0 Y18_1 Y18_10 Y18_11 Y18_2 Y18_3 Y18_4 Y18_5 Y18_6 Y18_7 Y18_8 Y18_9
    try clear Y20_0 Y20_1 Y20_10 Y20_11 Y20_2 Y20_3 Y20_4 Y20_5 Y20_6 Y20_7 Y20_8 Y20_9
    try clear Y21_0 Y21_1 Y21_10 Y21_11 Y21_2 Y21_3 Y21_4 Y21_5 Y21_6 Y21_7 Y21_8 Y21_9
    try clear Y7_0 Y7_1 Y7_10 Y7_11 Y7_2 Y7_3 Y7_4 Y7_5 Y7_6 Y7_7 Y7_8 Y7_9
    try clear Y9_0 Y9_1 Y9_10 Y9_11 Y9_2 Y9_3 Y9_4 Y9_5 Y9_6 Y9_7 Y9_8 Y9_9
    try clear p2
    try clear p6
    obtain ⟨kq, x35_15, rfl, HA, HJ15, BK608, HB⟩ := hcut
    cases kq with
    | zero => exact absurd HA.out (by simp [packet_fits.j1])
    | succ kj15 =>
     have H := HA.out
     clear HA
     simp only [packet_fits.j1] at H
     by_cases c22 : x35_15 = true
     ·subst c22
      have H1 : (some false) = some r := by rw [if_pos rfl] at H; exact H
      clear H
      have H := H1
      clear H1
      obtain rfl := Option.some.inj H
      go_wp2
      go_ret
      exact ⟨by first | rfl | (simp [errW_none, errW_some] <;> rfl) | (simp [*, errW_none, errW_some] <;> rfl), by repeat (first | (with_reducible first | exact HB.out | apply below_alloc | apply pw_below_drewN | apply below_drew1 | refine below_set ?_ GE608.out) | exact HB.out)⟩
     replace c22 := Bool.eq_false_iff.mpr c22
     subst c22
     have H1 : (if a0_0 = true then (if a0_11 ≥ 1 then (some (decide (a0_11 ≤ 255))) else (some false)) else (some (a0_11 == 0))) = some r := by rw [if_neg (show ¬ (false = true) by decide)] at H; exact H
     clear H
     have H := H1
     clear H1
     by_cases c23 : a0_0 = true
     ·subst c23
      have H1 : (if a0_11 ≥ 1 then (some (decide (a0_11 ≤ 255))) else (some false)) = some r := by rw [if_pos rfl] at H; exact H
      clear H
      have H := H1
      clear H1
      by_cases c24 : a0_11 ≥ 1
      ·rw [if_pos c24] at H
       have c24b0 : decide (1 ≤ a0_11) = true := decide_eq_true c24
       clear c24
       obtain rfl := Option.some.inj H
       obtain ⟨Z25_0, Z25_1, Z25_2, Z25_3, Z25_4, Z25_5, Z25_6, Z25_7, Z25_8, Z25_9, Z25_10, Z25_11, Y25_0, Y25_1, Y25_2, Y25_3, Y25_4, Y25_5, Y25_6, Y25_7, Y25_8, Y25_9, Y25_10, Y25_11⟩ := bc12 BK608.out
       go_wp2
       go_ret
       exact ⟨by first | rfl | (simp [errW_none, errW_some] <;> rfl) | (simp [*, errW_none, errW_some] <;> rfl), by repeat (first | (with_reducible first | exact HB.out | apply below_alloc | apply pw_below_drewN | apply below_drew1 | refine below_set ?_ GE608.out) | exact HB.out)⟩
      rw [if_neg c24] at H
      have c24b0 : decide (1 ≤ a0_11) = false := decide_eq_false c24
      clear c24
      obtain rfl := Option.some.inj H
      obtain ⟨Z26_0, Z26_1, Z26_2, Z26_3, Z26_4, Z26_5, Z26_6, Z26_7, Z26_8, Z26_9, Z26_10, Z26_11, Y26_0, Y26_1, Y26_2, Y26_3, Y26_4, Y26_5, Y26_6, Y26_7, Y26_8, Y26_9, Y26_10, Y26_11⟩ := bc12 BK608.out
      go_wp2
      go_ret
      exact ⟨by first | rfl | (simp [errW_none, errW_some] <;> rfl) | (simp [*, errW_none, errW_some] <;> rfl), by repeat (first | (with_reducible first | exact HB.out | apply below_alloc | apply pw_below_drewN | apply below_drew1 | refine below_set ?_ GE608.out) | exact HB.out)⟩
     replace c23 := Bool.eq_false_iff.mpr c23
     subst c23
     have H1 : (some (a0_11 == 0)) = some r := by rw [if_neg (show ¬ (false = true) by decide)] at H; exact H
     clear H
     have H := H1
     clear H1
     obtain rfl := Option.some.inj H
     obtain ⟨Z27_0, Z27_1, Z27_2, Z27_3, Z27_4, Z27_5, Z27_6, Z27_7, Z27_8, Z27_9, Z27_10, Z27_11, Y27_0, Y27_1, Y27_2, Y27_3, Y27_4, Y27_5, Y27_6, Y27_7, Y27_8, Y27_9, Y27_10, Y27_11⟩ := bc12 BK608.out
     go_wp2
     go_ret
     exact ⟨by first | rfl | (simp [errW_none, errW_some] <;> rfl) | (simp [*, errW_none, errW_some] <;> rfl), by repeat (first | (with_reducible first | exact HB.out | apply below_alloc | apply pw_below_drewN | apply below_drew1 | refine below_set ?_ GE608.out) | exact HB.out)⟩
def packet_Right.f (k : Nat) (a0_0 : Bool) (a0_1 : Bool) (a0_2 : Bool) (a0_3 : Int) (a0_4 : Int) (a0_5 : Int) (a0_6 : Int) (l0_7 : List Int) (a0_8 : Int) (l0_9 : List Int) (l0_10 : List Int) (a0_11 : Int) : Option (Bool) := (packet_fits.f k a0_0 a0_1 a0_2 a0_3 a0_4 a0_5 a0_6 l0_7 a0_8 l0_9 l0_10 a0_11).bind fun t611 => (if t611 = true then ((packet_sum.f a0_0 a0_1 a0_2 a0_3 a0_4 a0_5 a0_6 l0_7 a0_8 l0_9 l0_10 a0_11).bind fun t612 => (some (decide (t612 ≤ 65535)))) else (some false))
theorem packet_Right.mono : ∀ a0 a1 a2 a3 a4 a5 a6 a7 a8 a9 a10 a11 k, LeO (packet_Right.f k a0 a1 a2 a3 a4 a5 a6 a7 a8 a9 a10 a11) (packet_Right.f (k + 1) a0 a1 a2 a3 a4 a5 a6 a7 a8 a9 a10 a11) := by
 intro a0 a1 a2 a3 a4 a5 a6 a7 a8 a9 a10 a11 k
 unfold packet_Right.f
 repeat' first
   | (with_reducible exact packet_fits.mono _ _ _ _ _ _ _ _ _ _ _ _ _)
   | (with_reducible exact LeO.refl _)
   | (with_reducible exact LeO.none _)
   | (with_reducible refine LeO.ite ?_ ?_)
   | (with_reducible refine LeO.bind ?_ (fun _ => ?_))
   | exact packet_fits.mono _ _ _ _ _ _ _ _ _ _ _ _ _
   | exact LeO.none _
   | refine LeO.ite ?_ ?_
   | refine LeO.bind ?_ (fun _ => ?_)
set_option maxHeartbeats 8000000 in
set_option maxRecDepth 100000 in
theorem packet_Right.calls (k : Nat) (a0_0 : Bool) (a0_1 : Bool) (a0_2 : Bool) (a0_3 : Int) (a0_4 : Int) (a0_5 : Int) (a0_6 : Int) (A0_7 : Option Addr) (c0_7 : Nat) (l0_7 : List Int) (a0_8 : Int) (A0_9 : Option Addr) (c0_9 : Nat) (l0_9 : List Int) (A0_10 : Option Addr) (c0_10 : Nat) (l0_10 : List Int) (a0_11 : Int) (r : Bool) (w : World) (hr0_7 : Kd.C (Kd.int .u32) w A0_7 l0_7.length l0_7) (hc0_7 : l0_7.length ≤ c0_7) (hr0_9 : Kd.C (Kd.int .u8) w A0_9 l0_9.length l0_9) (hc0_9 : l0_9.length ≤ c0_9) (hr0_10 : Kd.C (Kd.int .u8) w A0_10 l0_10.length l0_10) (hc0_10 : l0_10.length ≤ c0_10) (h : packet_Right.f k a0_0 a0_1 a0_2 a0_3 a0_4 a0_5 a0_6 l0_7 a0_8 l0_9 l0_10 a0_11 = some r) :
  Calls Try.prog 27 #[.agg #[.bool a0_0, .bool a0_1, .bool a0_2, .int .i64 a0_3, .int .u16 a0_4, .int .u32 a0_5, .int .u32 a0_6, .slice A0_7 l0_7.length c0_7, .int .u16 a0_8, .slice A0_9 l0_9.length c0_9, .slice A0_10 l0_10.length c0_10, .int .i64 a0_11]] w fun e w' => e = .returned (.bool r) ∧ Below w.heap.size w w' := by
 have hu45 := Try.underlying45
 have HR0_7 := Aside0.mk hr0_7
 have HC0_7 := Aside0.mk hc0_7
 clear hr0_7 hc0_7
 have HR0_9 := Aside0.mk hr0_9
 have HC0_9 := Aside0.mk hc0_9
 clear hr0_9 hc0_9
 have HR0_10 := Aside0.mk hr0_10
 have HC0_10 := Aside0.mk hc0_10
 clear hr0_10 hc0_10
 have HB := Aside0.mk (Below.refl w.heap.size w)
 have H : ((packet_fits.f k a0_0 a0_1 a0_2 a0_3 a0_4 a0_5 a0_6 l0_7 a0_8 l0_9 l0_10 a0_11).bind fun t611 => (if t611 = true then ((packet_sum.f a0_0 a0_1 a0_2 a0_3 a0_4 a0_5 a0_6 l0_7 a0_8 l0_9 l0_10 a0_11).bind fun t612 => (some (decide (t612 ≤ 65535)))) else (some false))) = some r := h
 clear h
 replace H := Option.bind_eq_some_iff.mp H
 obtain ⟨t611, A20, H⟩ := H
 replace H : (if t611 = true then ((packet_sum.f a0_0 a0_1 a0_2 a0_3 a0_4 a0_5 a0_6 l0_7 a0_8 l0_9 l0_10 a0_11).bind fun t612 => (some (decide (t612 ≤ 65535)))) else (some false)) = some r := H
 have A2 := Aside0.mk A20
 clear A20
 by_cases c3 : t611 = true
 ·subst c3
  have H1 : ((packet_sum.f a0_0 a0_1 a0_2 a0_3 a0_4 a0_5 a0_6 l0_7 a0_8 l0_9 l0_10 a0_11).bind fun t612 => (some (decide (t612 ≤ 65535)))) = some r := by rw [if_pos rfl] at H; exact H
  clear H
  have H := H1
  clear H1
  replace H := Option.bind_eq_some_iff.mp H
  obtain ⟨t612, A40, H⟩ := H
  replace H : (some (decide (t612 ≤ 65535))) = some r := H
  have A4 := Aside0.mk A40
  clear A40
  obtain rfl := Option.some.inj H
  go_enter Try.func27, Try.ntmps27
  go_wp2_with (first | ((with_reducible refine gate_dst (N := 1) rfl ?_); refine box_event ?hg (N := 1) ?hd (cs := #[.bool a0_0, .bool a0_1, .bool a0_2, .int .i64 a0_3, .int .u16 a0_4, .int .u32 a0_5, .int .u32 a0_6, .slice A0_7 l0_7.length c0_7, .int .u16 a0_8, .slice A0_9 l0_9.length c0_9, .slice A0_10 l0_10.length c0_10, .int .i64 a0_11]) (t := 45) ?hr ?_; (case hd => rfl); (case hg => rfl); (case hr => first | (go_simp; done) | (go_simp; rfl)); intro gb610 hg w5 hbox hb; have n0_ := bstE HB hb; have BK610 := Aside0.mk (hbox); have GW610 := geE hg HB; have GE610 := geE hg HB; clear HB; have HB := n0_; clear n0_; clear hb hbox hg; obtain ⟨Z6_0, Z6_1, Z6_2, Z6_3, Z6_4, Z6_5, Z6_6, Z6_7, Z6_8, Z6_9, Z6_10, Z6_11, Y6_0, Y6_1, Y6_2, Y6_3, Y6_4, Y6_5, Y6_6, Y6_7, Y6_8, Y6_9, Y6_10, Y6_11⟩ := bc12 BK610.out) | ((with_reducible refine gate_callee (f := 45) rfl ?_); refine goesL_ (some 4) rfl rfl Try.func45 (by kernel_rfl) rfl #[.agg #[.bool a0_0, .bool a0_1, .bool a0_2, .int .i64 a0_3, .int .u16 a0_4, .int .u32 a0_5, .int .u32 a0_6, .slice A0_7 l0_7.length c0_7, .int .u16 a0_8, .slice A0_9 l0_9.length c0_9, .slice A0_10 l0_10.length c0_10, .int .i64 a0_11]] rfl (by (try simp only [List.map_toArray, List.map_cons, List.map_nil]); first | done | rfl | (simp only [List.length_drop, List.length_take]; rfl)) ?_; (with_reducible refine (packet_fits.calls k a0_0 a0_1 a0_2 a0_3 a0_4 a0_5 a0_6 _ _ l0_7 a0_8 _ _ l0_9 _ _ l0_10 a0_11 true _ ?side1 ?side2 ?side3 ?side4 ?side5 ?side6 A2.out).mono ?_); (case side1 => exact cbE HR0_7 HB); (case side2 => exact HC0_7.out); (case side3 => exact cbE HR0_9 HB); (case side4 => exact HC0_9.out); (case side5 => exact cbE HR0_10 HB); (case side6 => exact HC0_10.out); rintro e w7 ⟨rfl, hb⟩; refine ⟨_, rfl, ?_⟩; replace BK610 := bbE BK610 hb; replace HB := bstE HB hb; (try clear hb); (try clear hb2); (try clear hk); (try clear hi); obtain ⟨Z8_0, Z8_1, Z8_2, Z8_3, Z8_4, Z8_5, Z8_6, Z8_7, Z8_8, Z8_9, Z8_10, Z8_11, Y8_0, Y8_1, Y8_2, Y8_3, Y8_4, Y8_5, Y8_6, Y8_7, Y8_8, Y8_9, Y8_10, Y8_11⟩ := bc12 BK610.out) | (go_at_call 35; (with_reducible refine (packet_sum.calls a0_0 a0_1 a0_2 a0_3 a0_4 a0_5 a0_6 _ _ l0_7 a0_8 _ _ l0_9 _ _ l0_10 a0_11 t612 _ ?side1 ?side2 ?side3 ?side4 ?side5 ?side6 A4.out).mono ?_); (case side1 => exact cbE HR0_7 HB); (case side2 => exact HC0_7.out); (case side3 => exact cbE HR0_9 HB); (case side4 => exact HC0_9.out); (case side5 => exact cbE HR0_10 HB); (case side6 => exact HC0_10.out); rintro e w9 ⟨rfl, hb⟩; replace BK610 := bbE BK610 hb; replace HB := bstE HB hb; (try clear hb); (try clear hb2); (try clear hk); (try clear hi)))
  go_ret
  exact ⟨by first | rfl | (simp [errW_none, errW_some] <;> rfl) | (simp [*, errW_none, errW_some] <;> rfl), by repeat (first | (with_reducible first | exact HB.out | apply below_alloc | apply pw_below_drewN | apply below_drew1 | refine below_set ?_ GE610.out) | exact HB.out)⟩
 replace c3 := Bool.eq_false_iff.mpr c3
 subst c3
 have H1 : (some false) = some r := by rw [if_neg (show ¬ (false = true) by decide)] at H; exact H
 clear H
 have H := H1
 clear H1
 obtain rfl := Option.some.inj H
 go_enter Try.func27, Try.ntmps27
 go_wp2_with (first | ((with_reducible refine gate_dst (N := 1) rfl ?_); refine box_event ?hg (N := 1) ?hd (cs := #[.bool a0_0, .bool a0_1, .bool a0_2, .int .i64 a0_3, .int .u16 a0_4, .int .u32 a0_5, .int .u32 a0_6, .slice A0_7 l0_7.length c0_7, .int .u16 a0_8, .slice A0_9 l0_9.length c0_9, .slice A0_10 l0_10.length c0_10, .int .i64 a0_11]) (t := 45) ?hr ?_; (case hd => rfl); (case hg => rfl); (case hr => first | (go_simp; done) | (go_simp; rfl)); intro gb610 hg w10 hbox hb; have n0_ := bstE HB hb; have BK610 := Aside0.mk (hbox); have GW610 := geE hg HB; have GE610 := geE hg HB; clear HB; have HB := n0_; clear n0_; clear hb hbox hg; obtain ⟨Z11_0, Z11_1, Z11_2, Z11_3, Z11_4, Z11_5, Z11_6, Z11_7, Z11_8, Z11_9, Z11_10, Z11_11, Y11_0, Y11_1, Y11_2, Y11_3, Y11_4, Y11_5, Y11_6, Y11_7, Y11_8, Y11_9, Y11_10, Y11_11⟩ := bc12 BK610.out) | ((with_reducible refine gate_callee (f := 45) rfl ?_); refine goesL_ (some 4) rfl rfl Try.func45 (by kernel_rfl) rfl #[.agg #[.bool a0_0, .bool a0_1, .bool a0_2, .int .i64 a0_3, .int .u16 a0_4, .int .u32 a0_5, .int .u32 a0_6, .slice A0_7 l0_7.length c0_7, .int .u16 a0_8, .slice A0_9 l0_9.length c0_9, .slice A0_10 l0_10.length c0_10, .int .i64 a0_11]] rfl (by (try simp only [List.map_toArray, List.map_cons, List.map_nil]); first | done | rfl | (simp only [List.length_drop, List.length_take]; rfl)) ?_; (with_reducible refine (packet_fits.calls k a0_0 a0_1 a0_2 a0_3 a0_4 a0_5 a0_6 _ _ l0_7 a0_8 _ _ l0_9 _ _ l0_10 a0_11 false _ ?side1 ?side2 ?side3 ?side4 ?side5 ?side6 A2.out).mono ?_); (case side1 => exact cbE HR0_7 HB); (case side2 => exact HC0_7.out); (case side3 => exact cbE HR0_9 HB); (case side4 => exact HC0_9.out); (case side5 => exact cbE HR0_10 HB); (case side6 => exact HC0_10.out); rintro e w12 ⟨rfl, hb⟩; refine ⟨_, rfl, ?_⟩; replace BK610 := bbE BK610 hb; replace HB := bstE HB hb; (try clear hb); (try clear hb2); (try clear hk); (try clear hi)))
 go_ret
 exact ⟨by first | rfl | (simp [errW_none, errW_some] <;> rfl) | (simp [*, errW_none, errW_some] <;> rfl), by repeat (first | (with_reducible first | exact HB.out | apply below_alloc | apply pw_below_drewN | apply below_drew1 | refine below_set ?_ GE610.out) | exact HB.out)⟩
def head_word.f (l0 : List Int) (a1 : Int) : Option (List Int) := (some (([(a1 / 16777216) % 256, (a1 / 65536) % 256, (a1 / 256) % 256, (a1) % 256] : List Int) : List Int)).bind fun y613 => (if l0.length + y613.length < 140737488355328 then (some (l0 ++ y613)) else (none))
set_option maxHeartbeats 8000000 in
set_option maxRecDepth 100000 in
theorem head_word.calls (P0_ : Nat → Prop) (u9000_ : Value) (l0 : List Int) (a1 : Int) (r : List Int) (w0 w : World) (hB : Below w0.heap.size w0 w) (ho0 : Kd.R (Kd.int .u8) 5 w w0.heap.size P0_ u9000_ l0) (h : head_word.f l0 a1 = some r) :
  Calls Try.prog 53 #[u9000_, .int .u32 a1] w fun e w' => ∃ v0_ : Value, e = .returned (v0_) ∧ Kd.R (Kd.int .u8) 5 w' w0.heap.size (fun k_ => (P0_ k_ ∨ w.heap.size ≤ k_)) v0_ r ∧ Below w0.heap.size w0 w' ∧ Kept w w' (fun k_ => P0_ k_) := by
 have HO0 := Aside0.mk (show Kd.R (Kd.int .u8) 5 w w0.heap.size (fun k_ => (P0_ k_ ∨ w.heap.size ≤ k_)) u9000_ l0 from Kd.R_mono ho0 (fun k_ hk => (.inl hk)))
 have HK := Aside0.mk (Kept.refl w (fun k_ => P0_ k_))
 have HW0 := Aside0.mk hB.size
 have HB := Aside0.mk hB
 clear hB
 have H : ((some (([(a1 / 16777216) % 256, (a1 / 65536) % 256, (a1 / 256) % 256, (a1) % 256] : List Int) : List Int)).bind fun y613 => (if l0.length + y613.length < 140737488355328 then (some (l0 ++ y613)) else (none))) = some r := h
 clear h
 obtain ⟨y613, hy613⟩ : ∃ y_ : List Int, y_ = (([(a1 / 16777216) % 256, (a1 / 65536) % 256, (a1 / 256) % 256, (a1) % 256] : List Int)) := ⟨_, rfl⟩
 replace H : (if l0.length + y613.length < 140737488355328 then (some (l0 ++ y613)) else (none)) = some r := by first | (rw [hy613]; with_reducible exact H) | (have H2_ := (Option.bind_some _ _).symm.trans H; rw [hy613]; with_reducible exact H2_) | (have H2_ := (Option.bind_some _ _).symm.trans H; with_reducible exact H2_) | with_reducible exact H | (rw [hy613]; exact H) | exact H
 have Ny613 := Aside0.mk hy613
 clear hy613
 by_cases c3 : l0.length + y613.length < 140737488355328
 ·rw [if_pos c3] at H
  have LMc3 := Aside0.mk c3
  clear c3
  obtain ⟨y616, hy616⟩ : ∃ y_ : List Int, y_ = (l0 ++ y613) := ⟨_, rfl⟩
  replace H : (some y616) = some r := by first | (rw [hy616]; with_reducible exact H) | (have H2_ := (Option.bind_some _ _).symm.trans H; rw [hy616]; with_reducible exact H2_) | (have H2_ := (Option.bind_some _ _).symm.trans H; with_reducible exact H2_) | with_reducible exact H | (rw [hy616]; exact H) | exact H
  have Ny616 := Aside0.mk hy616
  clear hy616
  obtain rfl := Option.some.inj H
  go_enter Try.func53, Try.ntmps53
  go_wp2_with (first | ((with_reducible refine gate_dst (N := 17) rfl ?_); refine Kd.R_lit (Kd.int .u8) _ 5 ?hg (N := 17) ?hd (xs := ([(a1 / 16777216) % 256, (a1 / 65536) % 256, (a1 / 256) % 256, (a1) % 256] : List Int)) (inner := [.int .u8 ((a1 / 16777216) % 256), .int .u8 ((a1 / 65536) % 256), .int .u8 ((a1 / 256) % 256), .int .u8 ((a1) % 256)]) (ok := fun _ => True) (okp := fun _ => True) ?hr ?hp (fun _ hk => hk) trivial (Below.refl _ _) (Nat.le_refl _) (by simp) ?_; (case hd => rfl); (case hg => rfl); (case hr => first | (go_simp; done) | (go_simp; rfl)); (case hp => exact (Reps.one (show Kd.M (Kd.int .u8) _ _ _ ((a1 / 16777216) % 256) [.int .u8 ((a1 / 16777216) % 256)] from rfl) (Reps.one (show Kd.M (Kd.int .u8) _ _ _ ((a1 / 65536) % 256) [.int .u8 ((a1 / 65536) % 256)] from rfl) (Reps.one (show Kd.M (Kd.int .u8) _ _ _ ((a1 / 256) % 256) [.int .u8 ((a1 / 256) % 256)] from rfl) (Reps.one (show Kd.M (Kd.int .u8) _ _ _ ((a1) % 256) [.int .u8 ((a1) % 256)] from rfl) (Reps.none _ _)))))); intro v614 w4 ho5 hb hg_ hnew_; clear hg_ hnew_; (first | rw [← Ny613.out] at ho5 | (simp only [Int.reduceToNat] at ho5; rw [← Ny613.out] at ho5)); have n0_ := Aside0.mk (Kd.R_elder' (pR HO0) (Kd.R_base ho5) hb); have HO615 := Aside0.mk (Kd.R_lower (Kd.R_new' (Kd.R_newM (M := fun k_ => (P0_ k_ ∨ w.heap.size ≤ k_)) ho5 (by first | exact HK.out.1 | exact (show Kept w _ (fun k_ => P0_ k_) from by repeat (first | (with_reducible first | exact HK.out | apply Kept.alloc | apply Kept.drewN | apply Kept.drew) | exact HK.out)).1) (fun k_ h_ => .inr h_)) (Kd.R_lt (pR HO0))) (below_size (pB HB))); replace HK := Aside0.mk (Kept.below (S := (fun k_ => P0_ k_)) (by repeat (first | (with_reducible first | exact HK.out | apply Kept.alloc | apply Kept.drewN | apply Kept.drew) | exact HK.out)) hb); replace HB := bstE HB hb; clear HO0; have HO0 := n0_; clear n0_; clear hb ho5; obtain ⟨Ao7, co7, eo7⟩ := Kd.R_slice HO615.out; subst eo7) | ((with_reducible refine gate_builtin (b := .append) (xs := #[.tmp 5, .tmp 17]) rfl ?_); at_builtin; refine Kd.R_append_rows (Kd.int .u8) (w0 := w0) w0.heap.size rfl (.tmp 5) (.tmp 17) 22 5 (.int .u8 0) 1 rfl Try.underlying22 info5 rfl (by decide) (by omega) u9000_ l0 y613 _ _ _ (fun k_ => (P0_ k_ ∨ w.heap.size ≤ k_) ∧ some k_ ≠ (.slice Ao7 y613.length co7 : Value).ownBlock) (fun _ => False) rfl rfl ?aO ?aR (fun _ _ h => h) (fun _ h => h.elim) ?aF ?aB ?aS ?aL ?_; (case aR => exact cE (Kd.R_reads' HO615.out).2.2); (case aB => exact (pB HB)); (case aF => exact (fun k_ hk => ⟨(.inr (Nat.le_trans (by first | exact HK.out.1 | exact (show Kept w _ (fun k_ => P0_ k_) from by repeat (first | (with_reducible first | exact HK.out | apply Kept.alloc | apply Kept.drewN | apply Kept.drew) | exact HK.out)).1) hk)), Kd.fresh' (Kd.R_lt (pR HO615)) k_ hk⟩)); (case aO => exact (pR HO0)); (case aS => exact (below_size (pB HB))); (case aL => have := LMc3.out; omega); intro v617 w6 ho hb hg hat; rw [← Ny616.out] at ho; replace HO615 := Aside0.mk (Kd.R_after (ok := (fun k_ => (P0_ k_ ∨ w.heap.size ≤ k_))) (by (with_reducible repeat (first | apply Kd.R_alloc | apply Kd.R_drewN | apply Kd.R_drew)); exact Kd.R_mono HO615.out (fun _ hk => ⟨hk.1.1, hk.2⟩)) hg hat); replace HB := Aside0.mk (hb); replace HK := Aside0.mk (Kept.of_grown (S := (fun k_ => P0_ k_)) hg (by repeat (first | (with_reducible first | exact HK.out | apply Kept.alloc | apply Kept.drewN | apply Kept.drew) | exact HK.out)) (fun k_ e_ => (HO0.out.1 k_ e_).1)); have HO618 := Aside0.mk (ho); clear HO0; clear ho hb hg hat))
  go_ret
  exact ⟨_, by first | rfl | (simp [errW_none, errW_some] <;> rfl) | (simp [*, errW_none, errW_some] <;> rfl), by (with_reducible repeat (first | apply Kd.R_alloc | apply Kd.R_drewN | apply Kd.R_drew)); exact Kd.R_mono HO618.out (fun _ hk => hk.1), by repeat (first | (with_reducible first | exact HB.out | apply below_alloc | apply pw_below_drewN | apply below_drew1) | exact HB.out), by repeat (first | (with_reducible first | exact HK.out | apply Kept.alloc | apply Kept.drewN | apply Kept.drew) | exact HK.out)⟩
 rw [if_neg c3] at H
 exact absurd H (by simp)
end Go.Proofs.Ytcbdgknfkoodoaa.F
