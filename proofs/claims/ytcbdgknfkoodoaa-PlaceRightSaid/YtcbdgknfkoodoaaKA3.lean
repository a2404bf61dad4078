/- The walks of the program's functions and the plain proofs for this claim, merged by a program; each theorem says what it says, no conditions beyond those stated. -/
import Derived.Test.YtcbdgknfkoodoaaKA2
namespace Go.Proofs.Ytcbdgknfkoodoaa.F
open Go.RowKit Go.Proofs.YtcbdgknfkoodoaaW.PrintWords Go.Proofs.YtcbdgknfkoodoaaW.PrintLast Go.Proofs.YtcbdgknfkoodoaaW.PrintMore
attribute [local go_sem] max2_int min2_int max_two min_two max_three min_three max_four min_four   
set_option linter.unusedVariables false
set_option linter.unusedSimpArgs false
mutual
def place_Of.l0 : Nat → List (S32) → Int → Int → Bool → Bool → Bool → Int → Int → Int → Int → List Int → Int → List Int → List Int → Int → Option ((List (S32)) × Int)
  | 0, _, _, _, _, _, _, _, _, _, _, _, _, _, _, _ => none
  | k + 1, x6, x33, x34, x260000, x260001, x260002, x260003, x260004, x260005, x260006, x260007, x260008, x260009, x260010, x260011 => if x34 < x33 then ((place_lay.f k x6 6 (([4] : List Int))).bind fun t293 => (place_Of.l0 k t293 x33 (wrap64 (x34 + 1)) x260000 x260001 x260002 x260003 x260004 x260005 x260006 x260007 x260008 x260009 x260010 x260011)) else (if x260001 = true then ((place_lay.f k x6 7 (([2] : List Int))).bind fun t299 => ((place_lay.f k t299 8 (([2] : List Int))).bind fun t305 => ((place_lay.f k t305 9 (([(x260009.length : Int)] : List Int))).bind fun t311 => (place_Of.j1 k t311 x260000 x260001 x260002 x260003 x260004 x260005 x260006 x260007 x260008 x260009 x260010 x260011)))) else (place_Of.j1 k x6 x260000 x260001 x260002 x260003 x260004 x260005 x260006 x260007 x260008 x260009 x260010 x260011))
def place_Of.j1 : Nat → List (S32) → Bool → Bool → Bool → Int → Int → Int → Int → List Int → Int → List Int → List Int → Int → Option ((List (S32)) × Int)
  | 0, _, _, _, _, _, _, _, _, _, _, _, _, _ => none
  | k + 1, x6, x260000, x260001, x260002, x260003, x260004, x260005, x260006, x260007, x260008, x260009, x260010, x260011 => (place_lay.f k x6 10 (([(x260010.length : Int)] : List Int))).bind fun t317 => (if x260000 = true then ((place_lay.f k t317 11 (([wrap64 (x260011 - 1)] : List Int))).bind fun t323 => ((place_lay.f k t323 12 (([1] : List Int))).bind fun t329 => (some (t329, 0)))) else (some (t317, 0)))
end
def place_Of.f (k : Nat) (l0 : List Int) : Option ((List (S32)) × Int) := (packet_Read.f k l0).bind fun bt240 => (if bt240.2.2.2.2.2.2.2.2.2.2.2.2 = 0 then ((place_lay.f k ([] : List (S32)) 1 (([1] : List Int))).bind fun t263 => ((place_lay.f k t263 2 (([1] : List Int))).bind fun t269 => ((place_lay.f k t269 3 (([2] : List Int))).bind fun t275 => ((place_lay.f k t275 4 (([4] : List Int))).bind fun t281 => ((place_lay.f k t281 5 (([4] : List Int))).bind fun t287 => (place_Of.l0 k t287 (bt240.2.2.2.2.2.2.2.1.length : Int) 0 bt240.1 bt240.2.1 bt240.2.2.1 bt240.2.2.2.1 bt240.2.2.2.2.1 bt240.2.2.2.2.2.1 bt240.2.2.2.2.2.2.1 bt240.2.2.2.2.2.2.2.1 bt240.2.2.2.2.2.2.2.2.1 bt240.2.2.2.2.2.2.2.2.2.1 bt240.2.2.2.2.2.2.2.2.2.2.1 bt240.2.2.2.2.2.2.2.2.2.2.2.1)))))) else (some (([] : List (S32)), bt240.2.2.2.2.2.2.2.2.2.2.2.2)))
theorem place_Of.mono_l : ∀ k, (∀ y0 y1 y2 y3 y4 y5 y6 y7 y8 y9 y10 y11 y12 y13 y14, LeO (place_Of.l0 k y0 y1 y2 y3 y4 y5 y6 y7 y8 y9 y10 y11 y12 y13 y14) (place_Of.l0 (k + 1) y0 y1 y2 y3 y4 y5 y6 y7 y8 y9 y10 y11 y12 y13 y14)) ∧ (∀ y0 y1 y2 y3 y4 y5 y6 y7 y8 y9 y10 y11 y12, LeO (place_Of.j1 k y0 y1 y2 y3 y4 y5 y6 y7 y8 y9 y10 y11 y12) (place_Of.j1 (k + 1) y0 y1 y2 y3 y4 y5 y6 y7 y8 y9 y10 y11 y12))
  | 0 => ⟨fun _ _ _ _ _ _ _ _ _ _ _ _ _ _ _ r h => by simp [place_Of.l0] at h, fun _ _ _ _ _ _ _ _ _ _ _ _ _ r h => by simp [place_Of.j1] at h⟩
  | k + 1 => by
    obtain ⟨ih0, ih1⟩ := place_Of.mono_l k
    refine ⟨?_, ?_⟩
    · intro y0 y1 y2 y3 y4 y5 y6 y7 y8 y9 y10 y11 y12 y13 y14
      unfold place_Of.l0
      repeat' first
      | (with_reducible exact ih0 _ _ _ _ _ _ _ _ _ _ _ _ _ _ _)
      | (with_reducible exact ih1 _ _ _ _ _ _ _ _ _ _ _ _ _)
      | (with_reducible exact packet_Read.mono _ _)
      | (with_reducible exact place_lay.mono _ _ _ _)
      | (with_reducible exact LeO.refl _)
      | (with_reducible exact LeO.none _)
      | (with_reducible refine LeO.ite ?_ ?_)
      | (with_reducible refine LeO.bind ?_ (fun _ => ?_))
      | exact ih0 _ _ _ _ _ _ _ _ _ _ _ _ _ _ _
      | exact ih1 _ _ _ _ _ _ _ _ _ _ _ _ _
      | exact packet_Read.mono _ _
      | exact place_lay.mono _ _ _ _
      | exact LeO.none _
      | refine LeO.ite ?_ ?_
      | refine LeO.bind ?_ (fun _ => ?_)
    intro y0 y1 y2 y3 y4 y5 y6 y7 y8 y9 y10 y11 y12
    unfold place_Of.j1
    repeat' first
    | (with_reducible exact ih0 _ _ _ _ _ _ _ _ _ _ _ _ _ _ _)
    | (with_reducible exact ih1 _ _ _ _ _ _ _ _ _ _ _ _ _)
    | (with_reducible exact packet_Read.mono _ _)
    | (with_reducible exact place_lay.mono _ _ _ _)
    | (with_reducible exact LeO.refl _)
    | (with_reducible exact LeO.none _)
    | (with_reducible refine LeO.ite ?_ ?_)
    | (with_reducible refine LeO.bind ?_ (fun _ => ?_))
    | exact ih0 _ _ _ _ _ _ _ _ _ _ _ _ _ _ _
    | exact ih1 _ _ _ _ _ _ _ _ _ _ _ _ _
    | exact packet_Read.mono _ _
    | exact place_lay.mono _ _ _ _
    | exact LeO.none _
    | refine LeO.ite ?_ ?_
    | refine LeO.bind ?_ (fun _ => ?_)
theorem place_Of.mono : ∀ a0 k, LeO (place_Of.f k a0) (place_Of.f (k + 1) a0) := by
  intro a0 k
  obtain ⟨ih0, ih1⟩ := place_Of.mono_l k
  unfold place_Of.f
  repeat' first
      | (with_reducible exact ih0 _ _ _ _ _ _ _ _ _ _ _ _ _ _ _)
      | (with_reducible exact ih1 _ _ _ _ _ _ _ _ _ _ _ _ _)
      | (with_reducible exact packet_Read.mono _ _)
      | (with_reducible exact place_lay.mono _ _ _ _)
      | (with_reducible exact LeO.refl _)
      | (with_reducible exact LeO.none _)
      | (with_reducible refine LeO.ite ?_ ?_)
      | (with_reducible refine LeO.bind ?_ (fun _ => ?_))
      | exact ih0 _ _ _ _ _ _ _ _ _ _ _ _ _ _ _
      | exact ih1 _ _ _ _ _ _ _ _ _ _ _ _ _
      | exact packet_Read.mono _ _
      | exact place_lay.mono _ _ _ _
      | exact LeO.none _
      | refine LeO.ite ?_ ?_
      | refine LeO.bind ?_ (fun _ => ?_)
set_option maxHeartbeats 8000000 in
set_option maxRecDepth 100000 in
theorem place_Of.calls (k : Nat) (A0 : Option Addr) (c0 : Nat) (l0 : List Int) (r1 : List (S32)) (r2 : Int) (w : World) (hr0 : Kd.C (Kd.int .u8) w A0 l0.length l0) (hc0 : l0.length ≤ c0) (h : place_Of.f k l0 = some (r1, r2)) :
    Calls Try.prog 10 #[.slice A0 l0.length c0] w fun e w' => ∃ v0_ : Value, e = .returned (.tuple #[v0_, .int .i64 r2]) ∧ Kd.R k32 32 w' w.heap.size (fun _ => True) v0_ r1 ∧ Below w.heap.size w w' := by
  have hu45 := Try.underlying45
  have HR0 := Aside0.mk hr0
  have HC0 := Aside0.mk hc0
  clear hr0 hc0
  have HB := Aside0.mk (Below.refl w.heap.size w)
  have H : ((packet_Read.f k l0).bind fun bt240 => (if bt240.2.2.2.2.2.2.2.2.2.2.2.2 = 0 then ((place_lay.f k ([] : List (S32)) 1 (([1] : List Int))).bind fun t263 => ((place_lay.f k t263 2 (([1] : List Int))).bind fun t269 => ((place_lay.f k t269 3 (([2] : List Int))).bind fun t275 => ((place_lay.f k t275 4 (([4] : List Int))).bind fun t281 => ((place_lay.f k t281 5 (([4] : List Int))).bind fun t287 => (place_Of.l0 k t287 (bt240.2.2.2.2.2.2.2.1.length : Int) 0 bt240.1 bt240.2.1 bt240.2.2.1 bt240.2.2.2.1 bt240.2.2.2.2.1 bt240.2.2.2.2.2.1 bt240.2.2.2.2.2.2.1 bt240.2.2.2.2.2.2.2.1 bt240.2.2.2.2.2.2.2.2.1 bt240.2.2.2.2.2.2.2.2.2.1 bt240.2.2.2.2.2.2.2.2.2.2.1 bt240.2.2.2.2.2.2.2.2.2.2.2.1)))))) else (some (([] : List (S32)), bt240.2.2.2.2.2.2.2.2.2.2.2.2)))) = some (r1, r2) := h
  clear h
  replace H := Option.bind_eq_some_iff.mp H
  obtain ⟨⟨t240, t241, t242, t243, t244, t245, t246, t247, t250, t251, t254, t257, t258⟩, A20, H⟩ := H
  replace H : (if t258 = 0 then ((place_lay.f k ([] : List (S32)) 1 (([1] : List Int))).bind fun t263 => ((place_lay.f k t263 2 (([1] : List Int))).bind fun t269 => ((place_lay.f k t269 3 (([2] : List Int))).bind fun t275 => ((place_lay.f k t275 4 (([4] : List Int))).bind fun t281 => ((place_lay.f k t281 5 (([4] : List Int))).bind fun t287 => (place_Of.l0 k t287 (t247.length : Int) 0 t240 t241 t242 t243 t244 t245 t246 t247 t250 t251 t254 t257)))))) else (some (([] : List (S32)), t258))) = some (r1, r2) := H
  have A2 := Aside0.mk A20
  clear A20
  by_cases c3 : t258 = 0
  · rw [if_pos c3] at H
    have c3b0 : (t258 == 0) = true := beq_iff_eq.mpr c3
    have c3b1 : (t258 != 0) = false := bne_eq_false_iff_eq.mpr c3
    clear c3
    obtain ⟨y260, hy260⟩ : ∃ y_ : List Int, y_ = (([1] : List Int)) := ⟨_, rfl⟩
    replace H : ((place_lay.f k ([] : List (S32)) 1 y260).bind fun t263 => ((place_lay.f k t263 2 (([1] : List Int))).bind fun t269 => ((place_lay.f k t269 3 (([2] : List Int))).bind fun t275 => ((place_lay.f k t275 4 (([4] : List Int))).bind fun t281 => ((place_lay.f k t281 5 (([4] : List Int))).bind fun t287 => (place_Of.l0 k t287 (t247.length : Int) 0 t240 t241 t242 t243 t244 t245 t246 t247 t250 t251 t254 t257)))))) = some (r1, r2) := by first | (rw [hy260]; with_reducible exact H) | (have H2_ := (Option.bind_some _ _).symm.trans H; rw [hy260]; with_reducible exact H2_) | (have H2_ := (Option.bind_some _ _).symm.trans H; with_reducible exact H2_) | with_reducible exact H | (rw [hy260]; exact H) | exact H
    have Ny260 := Aside0.mk hy260
    clear hy260
    replace H := Option.bind_eq_some_iff.mp H
    obtain ⟨t263, A40, H⟩ := H
    replace H : ((place_lay.f k t263 2 (([1] : List Int))).bind fun t269 => ((place_lay.f k t269 3 (([2] : List Int))).bind fun t275 => ((place_lay.f k t275 4 (([4] : List Int))).bind fun t281 => ((place_lay.f k t281 5 (([4] : List Int))).bind fun t287 => (place_Of.l0 k t287 (t247.length : Int) 0 t240 t241 t242 t243 t244 t245 t246 t247 t250 t251 t254 t257))))) = some (r1, r2) := H
    have A4 := Aside0.mk A40
    clear A40
    obtain ⟨y266, hy266⟩ : ∃ y_ : List Int, y_ = (([1] : List Int)) := ⟨_, rfl⟩
    replace H : ((place_lay.f k t263 2 y266).bind fun t269 => ((place_lay.f k t269 3 (([2] : List Int))).bind fun t275 => ((place_lay.f k t275 4 (([4] : List Int))).bind fun t281 => ((place_lay.f k t281 5 (([4] : List Int))).bind fun t287 => (place_Of.l0 k t287 (t247.length : Int) 0 t240 t241 t242 t243 t244 t245 t246 t247 t250 t251 t254 t257))))) = some (r1, r2) := by first | (rw [hy266]; with_reducible exact H) | (have H2_ := (Option.bind_some _ _).symm.trans H; rw [hy266]; with_reducible exact H2_) | (have H2_ := (Option.bind_some _ _).symm.trans H; with_reducible exact H2_) | with_reducible exact H | (rw [hy266]; exact H) | exact H
    have Ny266 := Aside0.mk hy266
    clear hy266
    replace H := Option.bind_eq_some_iff.mp H
    obtain ⟨t269, A50, H⟩ := H
    replace H : ((place_lay.f k t269 3 (([2] : List Int))).bind fun t275 => ((place_lay.f k t275 4 (([4] : List Int))).bind fun t281 => ((place_lay.f k t281 5 (([4] : List Int))).bind fun t287 => (place_Of.l0 k t287 (t247.length : Int) 0 t240 t241 t242 t243 t244 t245 t246 t247 t250 t251 t254 t257)))) = some (r1, r2) := H
    have A5 := Aside0.mk A50
    clear A50
    obtain ⟨y272, hy272⟩ : ∃ y_ : List Int, y_ = (([2] : List Int)) := ⟨_, rfl⟩
    replace H : ((place_lay.f k t269 3 y272).bind fun t275 => ((place_lay.f k t275 4 (([4] : List Int))).bind fun t281 => ((place_lay.f k t281 5 (([4] : List Int))).bind fun t287 => (place_Of.l0 k t287 (t247.length : Int) 0 t240 t241 t242 t243 t244 t245 t246 t247 t250 t251 t254 t257)))) = some (r1, r2) := by first | (rw [hy272]; with_reducible exact H) | (have H2_ := (Option.bind_some _ _).symm.trans H; rw [hy272]; with_reducible exact H2_) | (have H2_ := (Option.bind_some _ _).symm.trans H; with_reducible exact H2_) | with_reducible exact H | (rw [hy272]; exact H) | exact H
    have Ny272 := Aside0.mk hy272
    clear hy272
    replace H := Option.bind_eq_some_iff.mp H
    obtain ⟨t275, A60, H⟩ := H
    replace H : ((place_lay.f k t275 4 (([4] : List Int))).bind fun t281 => ((place_lay.f k t281 5 (([4] : List Int))).bind fun t287 => (place_Of.l0 k t287 (t247.length : Int) 0 t240 t241 t242 t243 t244 t245 t246 t247 t250 t251 t254 t257))) = some (r1, r2) := H
    have A6 := Aside0.mk A60
    clear A60
    obtain ⟨y278, hy278⟩ : ∃ y_ : List Int, y_ = (([4] : List Int)) := ⟨_, rfl⟩
    replace H : ((place_lay.f k t275 4 y278).bind fun t281 => ((place_lay.f k t281 5 (([4] : List Int))).bind fun t287 => (place_Of.l0 k t287 (t247.length : Int) 0 t240 t241 t242 t243 t244 t245 t246 t247 t250 t251 t254 t257))) = some (r1, r2) := by first | (rw [hy278]; with_reducible exact H) | (have H2_ := (Option.bind_some _ _).symm.trans H; rw [hy278]; with_reducible exact H2_) | (have H2_ := (Option.bind_some _ _).symm.trans H; with_reducible exact H2_) | with_reducible exact H | (rw [hy278]; exact H) | exact H
    have Ny278 := Aside0.mk hy278
    clear hy278
    replace H := Option.bind_eq_some_iff.mp H
    obtain ⟨t281, A70, H⟩ := H
    replace H : ((place_lay.f k t281 5 (([4] : List Int))).bind fun t287 => (place_Of.l0 k t287 (t247.length : Int) 0 t240 t241 t242 t243 t244 t245 t246 t247 t250 t251 t254 t257)) = some (r1, r2) := H
    have A7 := Aside0.mk A70
    clear A70
    obtain ⟨y284, hy284⟩ : ∃ y_ : List Int, y_ = (([4] : List Int)) := ⟨_, rfl⟩
    replace H : ((place_lay.f k t281 5 y284).bind fun t287 => (place_Of.l0 k t287 (t247.length : Int) 0 t240 t241 t242 t243 t244 t245 t246 t247 t250 t251 t254 t257)) = some (r1, r2) := by first | (rw [hy284]; with_reducible exact H) | (have H2_ := (Option.bind_some _ _).symm.trans H; rw [hy284]; with_reducible exact H2_) | (have H2_ := (Option.bind_some _ _).symm.trans H; with_reducible exact H2_) | with_reducible exact H | (rw [hy284]; exact H) | exact H
    have Ny284 := Aside0.mk hy284
    clear hy284
    replace H := Option.bind_eq_some_iff.mp H
    obtain ⟨t287, A80, H⟩ := H
    replace H : (place_Of.l0 k t287 (t247.length : Int) 0 t240 t241 t242 t243 t244 t245 t246 t247 t250 t251 t254 t257) = some (r1, r2) := H
    have A8 := Aside0.mk A80
    clear A80
    have H' := Aside0.mk H
    clear H
    go_enter Try.func10, Try.ntmps10
    go_wp2_with (first | ((with_reducible refine gate_callee (f := 17) rfl ?_); refine goesL_ (some 9) rfl rfl Try.func17 (by kernel_rfl) rfl #[.slice A0 l0.length c0] rfl (by (try simp only [List.map_toArray, List.map_cons, List.map_nil]); first | done | rfl | (simp only [List.length_drop, List.length_take]; rfl)) ?_; (with_reducible refine (packet_Read.calls k _ _ l0 t240 t241 t242 t243 t244 t245 t246 t247 t250 t251 t254 t257 t258 _ ?side1 ?side2 A2.out).mono ?_); (case side1 => repeat (first | exact HR0.out | (with_reducible refine Kd.C_alloc ?_ _) | (with_reducible refine Kd.C_drewN ?_ _) | (with_reducible refine Kd.C_drew ?_))); (case side2 => exact HC0.out); rintro e w9 ⟨v248, v252, v255, rfl, ho0, ho1, ho2, hb⟩; refine ⟨_, rfl, ?_⟩; have HO249 := Aside0.mk (Kd.R_lower ho0 (below_size (pB HB))); have HO253 := Aside0.mk (Kd.R_lower ho1 (below_size (pB HB))); have HO256 := Aside0.mk (Kd.R_lower ho2 (below_size (pB HB))); replace HB := bstE HB hb; (try clear hb); (try clear hb2); (try clear hk); (try clear hi); (try clear ho0); (try clear ho1); (try clear ho2)) | ((with_reducible refine gate_dst (N := 4) rfl ?_); refine box_event ?hg (N := 4) ?hd (cs := #[.bool false, .bool false, .bool false, .int .i64 0, .int .u16 0, .int .u32 0, .int .u32 0, .slice none 0 0, .int .u16 0, .slice none 0 0, .slice none 0 0, .int .i64 0]) (t := 45) ?hr ?_; (case hd => rfl); (case hg => rfl); (case hr => first | (go_simp; done) | (go_simp; rfl)); intro gb259 hg w10 hbox hb; replace HO249 := rbE HO249 hb; replace HO253 := rbE HO253 hb; replace HO256 := rbE HO256 hb; have n3_ := bstE HB hb; have BK259 := Aside0.mk (hbox); have GW259 := geE hg HB; have GE259 := geE hg HB; clear HB; have HB := n3_; clear n3_; clear hb hbox hg; obtain ⟨hcz11_0, hcz11_1, hcz11_2, hcz11_3, hcz11_4, hcz11_5, hcz11_6, hcz11_7, hcz11_8, hcz11_9, hcz11_10, hcz11_11, hfz11_0, hfz11_1, hfz11_2, hfz11_3, hfz11_4, hfz11_5, hfz11_6, hfz11_7, hfz11_8, hfz11_9, hfz11_10, hfz11_11⟩ := bc12 BK259.out; obtain ⟨Ao12, co12, eo12⟩ := Kd.R_slice HO249.out; subst eo12; obtain ⟨Ao13, co13, eo13⟩ := Kd.R_slice HO253.out; subst eo13; obtain ⟨Ao14, co14, eo14⟩ := Kd.R_slice HO256.out; subst eo14) | ((with_reducible refine gate_store (t := 45) (p := 4) rfl ?_); refine store_event (t := 45) (p := 4) (v := ?vo_w15) (w1 := ((((((((((((w10.setCell ⟨gb259, 0, none⟩ (.bool t240)).setCell ⟨gb259, 1, none⟩ (.bool t241)).setCell ⟨gb259, 2, none⟩ (.bool t242)).setCell ⟨gb259, 3, none⟩ (.int .i64 t243)).setCell ⟨gb259, 4, none⟩ (.int .u16 t244)).setCell ⟨gb259, 5, none⟩ (.int .u32 t245)).setCell ⟨gb259, 6, none⟩ (.int .u32 t246)).setCell ⟨gb259, 7, none⟩ (.slice Ao12 t247.length co12)).setCell ⟨gb259, 8, none⟩ (.int .u16 t250)).setCell ⟨gb259, 9, none⟩ (.slice Ao13 t251.length co13)).setCell ⟨gb259, 10, none⟩ (.slice Ao14 t254.length co14)).setCell ⟨gb259, 11, none⟩ (.int .i64 t257))) ?hg ?ho ?hn ?hr ?_; (case ho => rfl); (case hg => rfl); (case hn => rfl); (case hr => first | (go_simp; done) | (go_simp; rfl)); intro w15 hw; replace HO249 := rfE hw HO249 BK259; replace HO253 := rfE hw HO253 BK259; replace HO256 := rfE hw HO256 BK259; replace BK259 : Aside0 (w15.heap[gb259]? = some (.cells #[.bool t240, .bool t241, .bool t242, .int .i64 t243, .int .u16 t244, .int .u32 t245, .int .u32 t246, .slice Ao12 t247.length co12, .int .u16 t250, .slice Ao13 t251.length co13, .slice Ao14 t254.length co14, .int .i64 t257] 45 (0, 0))) := ⟨by rw [hw]; apply puts12; exact BK259.out⟩; replace HB := bsE hw HB GE259; clear hw) | ((with_reducible refine gate_dst (N := 16) rfl ?_); refine Kd.R_lit (Kd.int .i64) _ 3 ?hg (N := 16) ?hd (xs := ([1] : List Int)) (inner := [.int .i64 1]) (ok := fun _ => True) (okp := fun _ => True) ?hr ?hp (fun _ hk => hk) trivial (Below.refl _ _) (Nat.le_refl _) (by simp) ?_; (case hd => rfl); (case hg => rfl); (case hr => first | (go_simp; done) | (go_simp; rfl)); (case hp => exact (Reps.one (show Kd.M (Kd.int .i64) _ _ _ 1 [.int .i64 1] from rfl) (Reps.none _ _))); intro v261 w16 ho17 hb hg_ hnew_; clear hg_ hnew_; (first | rw [← Ny260.out] at ho17 | (simp only [Int.reduceToNat] at ho17; rw [← Ny260.out] at ho17)); replace HO249 := rbE HO249 hb; replace HO253 := rbE HO253 hb; replace HO256 := rbE HO256 hb; have HO262 := Aside0.mk (Kd.R_lower ho17 (below_size (pB HB))); replace BK259 := bbE BK259 hb; replace HB := bstE HB hb; clear hb ho17; obtain ⟨Ao18, co18, eo18⟩ := Kd.R_slice HO262.out; subst eo18) | ((with_reducible refine gate_callee (f := 30) rfl ?_); refine goesL_ (some 17) rfl rfl Try.func30 (by kernel_rfl) rfl #[.slice none 0 0, .int .i64 1, .slice Ao18 y260.length co18] rfl (by (try simp only [List.map_toArray, List.map_cons, List.map_nil]); first | done | rfl | (simp only [List.length_drop, List.length_take]; rfl)) ?_; (refine (place_lay.calls k (fun k_ => some k_ = (.slice none 0 0 : Value).ownBlock) (.slice none 0 0) ([] : List (S32)) 1 _ _ y260 t263 w _ ?side1 ?side2 ?side3 ?side4 A4.out).mono ?_); (case side1 => repeat (first | (with_reducible first | exact HB.out | apply below_alloc | apply pw_below_drewN | apply below_drew1 | refine below_set ?_ GE259.out) | exact HB.out)); (case side2 => exact Kd.R_nil _ _ _ _ _); (case side3 => exact Kd.C_kept_own (HO262.out) (fun k_ hk_ hs_ => (fun e_ => by simp [Value.ownBlock] at e_) hs_)); (case side4 => exact (Kd.R_reads' HO262.out).2.1); rintro e w19 ⟨v264, rfl, ho0, hb, hkp⟩; refine ⟨_, rfl, ?_⟩; replace HO249 := Aside0.mk (Kd.R_mono (ok' := fun k_ => True) (Kd.R_keptB (HO249.out) hkp (fun k_ hk_ hs_ => (fun e_ => by simp [Value.ownBlock] at e_) hs_)) (fun k_ hk_ => trivial)); replace HO253 := Aside0.mk (Kd.R_mono (ok' := fun k_ => some k_ ≠ (.slice Ao14 t254.length co14 : Value).ownBlock) (Kd.R_keptB (HO253.out) hkp (fun k_ hk_ hs_ => (fun e_ => by simp [Value.ownBlock] at e_) hs_)) (fun k_ hk_ => hk_.1)); replace HO256 := Aside0.mk (Kd.R_mono (ok' := fun k_ => some k_ ≠ (.slice Ao13 t251.length co13 : Value).ownBlock) (Kd.R_keptB (HO256.out) hkp (fun k_ hk_ hs_ => (fun e_ => by simp [Value.ownBlock] at e_) hs_)) (fun k_ hk_ => hk_.1)); replace BK259 := Aside0.mk (blk_kept (pk BK259) hkp (fun hs_ => (fun e_ => by simp [Value.ownBlock] at e_) hs_)); replace HO262 := Aside0.mk (Kd.R_mono (ok' := fun k_ => True) (Kd.R_keptB (HO262.out) hkp (fun k_ hk_ hs_ => (fun e_ => by simp [Value.ownBlock] at e_) hs_)) (fun k_ hk_ => trivial)); have HO265 := Aside0.mk (Kd.R_mono (ok' := fun k_ => True) ho0 (fun k_ hk_ => trivial)); replace HB := Aside0.mk (hb); (try clear hb); (try clear hkp); (try clear ho0)) | ((with_reducible refine gate_dst (N := 19) rfl ?_); refine Kd.R_lit (Kd.int .i64) _ 3 ?hg (N := 19) ?hd (xs := ([1] : List Int)) (inner := [.int .i64 1]) (ok := fun _ => True) (okp := fun _ => True) ?hr ?hp (fun _ hk => hk) trivial (Below.refl _ _) (Nat.le_refl _) (by simp) ?_; (case hd => rfl); (case hg => rfl); (case hr => first | (go_simp; done) | (go_simp; rfl)); (case hp => exact (Reps.one (show Kd.M (Kd.int .i64) _ _ _ 1 [.int .i64 1] from rfl) (Reps.none _ _))); intro v267 w20 ho21 hb hg_ hnew_; clear hg_ hnew_; (first | rw [← Ny266.out] at ho21 | (simp only [Int.reduceToNat] at ho21; rw [← Ny266.out] at ho21)); replace HO249 := rbE HO249 hb; replace HO253 := rbE HO253 hb; replace HO256 := rbE HO256 hb; have n3_ := Aside0.mk (Kd.R_elder' (pR HO262) (Kd.R_base ho21) hb); replace HO265 := rbE HO265 hb; have HO268 := Aside0.mk (Kd.R_lower (Kd.R_new' ho21 (Kd.R_lt (pR HO262))) (below_size (pB HB))); replace BK259 := bbE BK259 hb; replace HB := bstE HB hb; clear HO262; have HO262 := n3_; clear n3_; clear hb ho21; obtain ⟨Ao22, co22, eo22⟩ := Kd.R_slice HO265.out; subst eo22; obtain ⟨Ao23, co23, eo23⟩ := Kd.R_slice HO268.out; subst eo23) | ((with_reducible refine gate_callee (f := 30) rfl ?_); refine goesL_ (some 20) rfl rfl Try.func30 (by kernel_rfl) rfl #[.slice Ao22 t263.length co22, .int .i64 2, .slice Ao23 y266.length co23] rfl (by (try simp only [List.map_toArray, List.map_cons, List.map_nil]); first | done | rfl | (simp only [List.length_drop, List.length_take]; rfl)) ?_; (with_reducible refine (place_lay.calls k (fun k_ => some k_ = (.slice Ao22 t263.length co22 : Value).ownBlock) (.slice Ao22 t263.length co22) t263 2 _ _ y266 t269 w _ ?side1 ?side2 ?side3 ?side4 A5.out).mono ?_); (case side1 => repeat (first | (with_reducible first | exact HB.out | apply below_alloc | apply pw_below_drewN | apply below_drew1 | refine below_set ?_ GE259.out) | exact HB.out)); (case side2 => exact Kd.R_tight rfl HO265.out); (case side3 => exact Kd.C_kept_own ((Kd.R_apart' HO268.out (Kd.R_typed HO265.out) (by decide))) (fun k_ hk_ hs_ => (hk_.2) hs_)); (case side4 => exact (Kd.R_reads' HO268.out).2.1); rintro e w24 ⟨v270, rfl, ho0, hb, hkp⟩; refine ⟨_, rfl, ?_⟩; replace HO249 := Aside0.mk (Kd.R_mono (ok' := fun k_ => True) (Kd.R_keptB ((Kd.R_apart' HO249.out (Kd.R_typed HO265.out) (by decide))) hkp (fun k_ hk_ hs_ => (hk_.2) hs_)) (fun k_ hk_ => trivial)); replace HO253 := Aside0.mk (Kd.R_mono (ok' := fun k_ => some k_ ≠ (.slice Ao14 t254.length co14 : Value).ownBlock) (Kd.R_keptB ((Kd.R_apart' HO253.out (Kd.R_typed HO265.out) (by decide))) hkp (fun k_ hk_ hs_ => (hk_.2) hs_)) (fun k_ hk_ => hk_.1.1)); replace HO256 := Aside0.mk (Kd.R_mono (ok' := fun k_ => some k_ ≠ (.slice Ao13 t251.length co13 : Value).ownBlock) (Kd.R_keptB ((Kd.R_apart' HO256.out (Kd.R_typed HO265.out) (by decide))) hkp (fun k_ hk_ hs_ => (hk_.2) hs_)) (fun k_ hk_ => hk_.1.1)); replace BK259 := Aside0.mk (blk_kept (pk BK259) hkp (fun hs_ => (fun e_ => (Kd.R_ne HO265.out BK259.out (by decide)) e_) hs_)); replace HO262 := Aside0.mk (Kd.R_mono (ok' := fun k_ => some k_ ≠ (.slice Ao23 y266.length co23 : Value).ownBlock) (Kd.R_keptB ((Kd.R_apart' HO262.out (Kd.R_typed HO265.out) (by decide))) hkp (fun k_ hk_ hs_ => (hk_.2) hs_)) (fun k_ hk_ => hk_.1.1.2)); replace HO268 := Aside0.mk (Kd.R_mono (ok' := fun k_ => some k_ ≠ (.slice Ao18 y260.length co18 : Value).ownBlock) (Kd.R_keptB ((Kd.R_apart' HO268.out (Kd.R_typed HO265.out) (by decide))) hkp (fun k_ hk_ hs_ => (hk_.2) hs_)) (fun k_ hk_ => hk_.1.1.2)); have HO271 := Aside0.mk (Kd.R_mono (ok' := fun k_ => True) ho0 (fun k_ hk_ => trivial)); replace HB := Aside0.mk (hb); clear HO265; (try clear hb); (try clear hkp); (try clear ho0)) | ((with_reducible refine gate_dst (N := 22) rfl ?_); refine Kd.R_lit (Kd.int .i64) _ 3 ?hg (N := 22) ?hd (xs := ([2] : List Int)) (inner := [.int .i64 2]) (ok := fun _ => True) (okp := fun _ => True) ?hr ?hp (fun _ hk => hk) trivial (Below.refl _ _) (Nat.le_refl _) (by simp) ?_; (case hd => rfl); (case hg => rfl); (case hr => first | (go_simp; done) | (go_simp; rfl)); (case hp => exact (Reps.one (show Kd.M (Kd.int .i64) _ _ _ 2 [.int .i64 2] from rfl) (Reps.none _ _))); intro v273 w25 ho26 hb hg_ hnew_; clear hg_ hnew_; (first | rw [← Ny272.out] at ho26 | (simp only [Int.reduceToNat] at ho26; rw [← Ny272.out] at ho26)); replace HO249 := rbE HO249 hb; replace HO253 := rbE HO253 hb; replace HO256 := rbE HO256 hb; have n3_ := Aside0.mk (Kd.R_elder' (pR HO262) (Kd.R_base ho26) hb); have n4_ := Aside0.mk (Kd.R_elder' (pR HO268) (Kd.R_base ho26) hb); replace HO271 := rbE HO271 hb; have HO274 := Aside0.mk (Kd.R_lower (Kd.R_new' (Kd.R_new' ho26 (Kd.R_lt (pR HO262))) (Kd.R_lt (pR HO268))) (below_size (pB HB))); replace BK259 := bbE BK259 hb; replace HB := bstE HB hb; clear HO262; clear HO268; have HO262 := n3_; have HO268 := n4_; clear n3_ n4_; clear hb ho26; obtain ⟨Ao27, co27, eo27⟩ := Kd.R_slice HO271.out; subst eo27; obtain ⟨Ao28, co28, eo28⟩ := Kd.R_slice HO274.out; subst eo28) | ((with_reducible refine gate_callee (f := 30) rfl ?_); refine goesL_ (some 23) rfl rfl Try.func30 (by kernel_rfl) rfl #[.slice Ao27 t269.length co27, .int .i64 3, .slice Ao28 y272.length co28] rfl (by (try simp only [List.map_toArray, List.map_cons, List.map_nil]); first | done | rfl | (simp only [List.length_drop, List.length_take]; rfl)) ?_; (with_reducible refine (place_lay.calls k (fun k_ => some k_ = (.slice Ao27 t269.length co27 : Value).ownBlock) (.slice Ao27 t269.length co27) t269 3 _ _ y272 t275 w _ ?side1 ?side2 ?side3 ?side4 A6.out).mono ?_); (case side1 => repeat (first | (with_reducible first | exact HB.out | apply below_alloc | apply pw_below_drewN | apply below_drew1 | refine below_set ?_ GE259.out) | exact HB.out)); (case side2 => exact Kd.R_tight rfl HO271.out); (case side3 => exact Kd.C_kept_own ((Kd.R_apart' HO274.out (Kd.R_typed HO271.out) (by decide))) (fun k_ hk_ hs_ => (hk_.2) hs_)); (case side4 => exact (Kd.R_reads' HO274.out).2.1); rintro e w29 ⟨v276, rfl, ho0, hb, hkp⟩; refine ⟨_, rfl, ?_⟩; replace HO249 := Aside0.mk (Kd.R_mono (ok' := fun k_ => True) (Kd.R_keptB ((Kd.R_apart' HO249.out (Kd.R_typed HO271.out) (by decide))) hkp (fun k_ hk_ hs_ => (hk_.2) hs_)) (fun k_ hk_ => trivial)); replace HO253 := Aside0.mk (Kd.R_mono (ok' := fun k_ => some k_ ≠ (.slice Ao14 t254.length co14 : Value).ownBlock) (Kd.R_keptB ((Kd.R_apart' HO253.out (Kd.R_typed HO271.out) (by decide))) hkp (fun k_ hk_ hs_ => (hk_.2) hs_)) (fun k_ hk_ => hk_.1.1)); replace HO256 := Aside0.mk (Kd.R_mono (ok' := fun k_ => some k_ ≠ (.slice Ao13 t251.length co13 : Value).ownBlock) (Kd.R_keptB ((Kd.R_apart' HO256.out (Kd.R_typed HO271.out) (by decide))) hkp (fun k_ hk_ hs_ => (hk_.2) hs_)) (fun k_ hk_ => hk_.1.1)); replace BK259 := Aside0.mk (blk_kept (pk BK259) hkp (fun hs_ => (fun e_ => (Kd.R_ne HO271.out BK259.out (by decide)) e_) hs_)); replace HO262 := Aside0.mk (Kd.R_mono (ok' := fun k_ => some k_ ≠ (.slice Ao23 y266.length co23 : Value).ownBlock ∧ some k_ ≠ (.slice Ao28 y272.length co28 : Value).ownBlock) (Kd.R_keptB ((Kd.R_apart' HO262.out (Kd.R_typed HO271.out) (by decide))) hkp (fun k_ hk_ hs_ => (hk_.2) hs_)) (fun k_ hk_ => ⟨hk_.1.1.1, hk_.1.1.2⟩)); replace HO268 := Aside0.mk (Kd.R_mono (ok' := fun k_ => some k_ ≠ (.slice Ao18 y260.length co18 : Value).ownBlock ∧ some k_ ≠ (.slice Ao28 y272.length co28 : Value).ownBlock) (Kd.R_keptB ((Kd.R_apart' HO268.out (Kd.R_typed HO271.out) (by decide))) hkp (fun k_ hk_ hs_ => (hk_.2) hs_)) (fun k_ hk_ => ⟨hk_.1.1.1, hk_.1.1.2⟩)); replace HO274 := Aside0.mk (Kd.R_mono (ok' := fun k_ => some k_ ≠ (.slice Ao18 y260.length co18 : Value).ownBlock ∧ some k_ ≠ (.slice Ao23 y266.length co23 : Value).ownBlock) (Kd.R_keptB ((Kd.R_apart' HO274.out (Kd.R_typed HO271.out) (by decide))) hkp (fun k_ hk_ hs_ => (hk_.2) hs_)) (fun k_ hk_ => ⟨hk_.1.1.1.2, hk_.1.1.2⟩)); have HO277 := Aside0.mk (Kd.R_mono (ok' := fun k_ => True) ho0 (fun k_ hk_ => trivial)); replace HB := Aside0.mk (hb); clear HO271; (try clear hb); (try clear hkp); (try clear ho0)) | ((with_reducible refine gate_dst (N := 25) rfl ?_); refine Kd.R_lit (Kd.int .i64) _ 3 ?hg (N := 25) ?hd (xs := ([4] : List Int)) (inner := [.int .i64 4]) (ok := fun _ => True) (okp := fun _ => True) ?hr ?hp (fun _ hk => hk) trivial (Below.refl _ _) (Nat.le_refl _) (by simp) ?_; (case hd => rfl); (case hg => rfl); (case hr => first | (go_simp; done) | (go_simp; rfl)); (case hp => exact (Reps.one (show Kd.M (Kd.int .i64) _ _ _ 4 [.int .i64 4] from rfl) (Reps.none _ _))); intro v279 w30 ho31 hb hg_ hnew_; clear hg_ hnew_; (first | rw [← Ny278.out] at ho31 | (simp only [Int.reduceToNat] at ho31; rw [← Ny278.out] at ho31)); replace HO249 := rbE HO249 hb; replace HO253 := rbE HO253 hb; replace HO256 := rbE HO256 hb; have n3_ := Aside0.mk (Kd.R_elder' (pR HO262) (Kd.R_base ho31) hb); have n4_ := Aside0.mk (Kd.R_elder' (pR HO268) (Kd.R_base ho31) hb); have n5_ := Aside0.mk (Kd.R_elder' (pR HO274) (Kd.R_base ho31) hb); replace HO277 := rbE HO277 hb; have HO280 := Aside0.mk (Kd.R_lower (Kd.R_new' (Kd.R_new' (Kd.R_new' ho31 (Kd.R_lt (pR HO262))) (Kd.R_lt (pR HO268))) (Kd.R_lt (pR HO274))) (below_size (pB HB))); replace BK259 := bbE BK259 hb; replace HB := bstE HB hb; clear HO262; clear HO268; clear HO274; have HO262 := n3_; have HO268 := n4_; have HO274 := n5_; clear n3_ n4_ n5_; clear hb ho31; obtain ⟨Ao32, co32, eo32⟩ := Kd.R_slice HO277.out; subst eo32; obtain ⟨Ao33, co33, eo33⟩ := Kd.R_slice HO280.out; subst eo33) | ((with_reducible refine gate_callee (f := 30) rfl ?_); refine goesL_ (some 26) rfl rfl Try.func30 (by kernel_rfl) rfl #[.slice Ao32 t275.length co32, .int .i64 4, .slice Ao33 y278.length co33] rfl (by (try simp only [List.map_toArray, List.map_cons, List.map_nil]); first | done | rfl | (simp only [List.length_drop, List.length_take]; rfl)) ?_; (with_reducible refine (place_lay.calls k (fun k_ => some k_ = (.slice Ao32 t275.length co32 : Value).ownBlock) (.slice Ao32 t275.length co32) t275 4 _ _ y278 t281 w _ ?side1 ?side2 ?side3 ?side4 A7.out).mono ?_); (case side1 => repeat (first | (with_reducible first | exact HB.out | apply below_alloc | apply pw_below_drewN | apply below_drew1 | refine below_set ?_ GE259.out) | exact HB.out)); (case side2 => exact Kd.R_tight rfl HO277.out); (case side3 => exact Kd.C_kept_own ((Kd.R_apart' HO280.out (Kd.R_typed HO277.out) (by decide))) (fun k_ hk_ hs_ => (hk_.2) hs_)); (case side4 => exact (Kd.R_reads' HO280.out).2.1); rintro e w34 ⟨v282, rfl, ho0, hb, hkp⟩; refine ⟨_, rfl, ?_⟩; replace HO249 := Aside0.mk (Kd.R_mono (ok' := fun k_ => True) (Kd.R_keptB ((Kd.R_apart' HO249.out (Kd.R_typed HO277.out) (by decide))) hkp (fun k_ hk_ hs_ => (hk_.2) hs_)) (fun k_ hk_ => trivial)); replace HO253 := Aside0.mk (Kd.R_mono (ok' := fun k_ => some k_ ≠ (.slice Ao14 t254.length co14 : Value).ownBlock) (Kd.R_keptB ((Kd.R_apart' HO253.out (Kd.R_typed HO277.out) (by decide))) hkp (fun k_ hk_ hs_ => (hk_.2) hs_)) (fun k_ hk_ => hk_.1.1)); replace HO256 := Aside0.mk (Kd.R_mono (ok' := fun k_ => some k_ ≠ (.slice Ao13 t251.length co13 : Value).ownBlock) (Kd.R_keptB ((Kd.R_apart' HO256.out (Kd.R_typed HO277.out) (by decide))) hkp (fun k_ hk_ hs_ => (hk_.2) hs_)) (fun k_ hk_ => hk_.1.1)); replace BK259 := Aside0.mk (blk_kept (pk BK259) hkp (fun hs_ => (fun e_ => (Kd.R_ne HO277.out BK259.out (by decide)) e_) hs_)); replace HO262 := Aside0.mk (Kd.R_mono (ok' := fun k_ => some k_ ≠ (.slice Ao23 y266.length co23 : Value).ownBlock ∧ some k_ ≠ (.slice Ao28 y272.length co28 : Value).ownBlock ∧ some k_ ≠ (.slice Ao33 y278.length co33 : Value).ownBlock) (Kd.R_keptB ((Kd.R_apart' HO262.out (Kd.R_typed HO277.out) (by decide))) hkp (fun k_ hk_ hs_ => (hk_.2) hs_)) (fun k_ hk_ => ⟨hk_.1.1.1.1, hk_.1.1.1.2, hk_.1.1.2⟩)); replace HO268 := Aside0.mk (Kd.R_mono (ok' := fun k_ => some k_ ≠ (.slice Ao18 y260.length co18 : Value).ownBlock ∧ some k_ ≠ (.slice Ao28 y272.length co28 : Value).ownBlock ∧ some k_ ≠ (.slice Ao33 y278.length co33 : Value).ownBlock) (Kd.R_keptB ((Kd.R_apart' HO268.out (Kd.R_typed HO277.out) (by decide))) hkp (fun k_ hk_ hs_ => (hk_.2) hs_)) (fun k_ hk_ => ⟨hk_.1.1.1.1, hk_.1.1.1.2, hk_.1.1.2⟩)); replace HO274 := Aside0.mk (Kd.R_mono (ok' := fun k_ => some k_ ≠ (.slice Ao18 y260.length co18 : Value).ownBlock ∧ some k_ ≠ (.slice Ao23 y266.length co23 : Value).ownBlock ∧ some k_ ≠ (.slice Ao33 y278.length co33 : Value).ownBlock) (Kd.R_keptB ((Kd.R_apart' HO274.out (Kd.R_typed HO277.out) (by decide))) hkp (fun k_ hk_ hs_ => (hk_.2) hs_)) (fun k_ hk_ => ⟨hk_.1.1.1.1, hk_.1.1.1.2, hk_.1.1.2⟩)); replace HO280 := Aside0.mk (Kd.R_mono (ok' := fun k_ => some k_ ≠ (.slice Ao18 y260.length co18 : Value).ownBlock ∧ some k_ ≠ (.slice Ao23 y266.length co23 : Value).ownBlock ∧ some k_ ≠ (.slice Ao28 y272.length co28 : Value).ownBlock) (Kd.R_keptB ((Kd.R_apart' HO280.out (Kd.R_typed HO277.out) (by decide))) hkp (fun k_ hk_ hs_ => (hk_.2) hs_)) (fun k_ hk_ => ⟨hk_.1.1.1.1.2, hk_.1.1.1.2, hk_.1.1.2⟩)); have HO283 := Aside0.mk (Kd.R_mono (ok' := fun k_ => True) ho0 (fun k_ hk_ => trivial)); replace HB := Aside0.mk (hb); clear HO277; (try clear hb); (try clear hkp); (try clear ho0)) | ((with_reducible refine gate_dst (N := 28) rfl ?_); refine Kd.R_lit (Kd.int .i64) _ 3 ?hg (N := 28) ?hd (xs := ([4] : List Int)) (inner := [.int .i64 4]) (ok := fun _ => True) (okp := fun _ => True) ?hr ?hp (fun _ hk => hk) trivial (Below.refl _ _) (Nat.le_refl _) (by simp) ?_; (case hd => rfl); (case hg => rfl); (case hr => first | (go_simp; done) | (go_simp; rfl)); (case hp => exact (Reps.one (show Kd.M (Kd.int .i64) _ _ _ 4 [.int .i64 4] from rfl) (Reps.none _ _))); intro v285 w35 ho36 hb hg_ hnew_; clear hg_ hnew_; (first | rw [← Ny284.out] at ho36 | (simp only [Int.reduceToNat] at ho36; rw [← Ny284.out] at ho36)); replace HO249 := rbE HO249 hb; replace HO253 := rbE HO253 hb; replace HO256 := rbE HO256 hb; have n3_ := Aside0.mk (Kd.R_elder' (pR HO262) (Kd.R_base ho36) hb); have n4_ := Aside0.mk (Kd.R_elder' (pR HO268) (Kd.R_base ho36) hb); have n5_ := Aside0.mk (Kd.R_elder' (pR HO274) (Kd.R_base ho36) hb); have n6_ := Aside0.mk (Kd.R_elder' (pR HO280) (Kd.R_base ho36) hb); replace HO283 := rbE HO283 hb; have HO286 := Aside0.mk (Kd.R_lower (Kd.R_new' (Kd.R_new' (Kd.R_new' (Kd.R_new' ho36 (Kd.R_lt (pR HO262))) (Kd.R_lt (pR HO268))) (Kd.R_lt (pR HO274))) (Kd.R_lt (pR HO280))) (below_size (pB HB))); replace BK259 := bbE BK259 hb; replace HB := bstE HB hb; clear HO262; clear HO268; clear HO274; clear HO280; have HO262 := n3_; have HO268 := n4_; have HO274 := n5_; have HO280 := n6_; clear n3_ n4_ n5_ n6_; clear hb ho36; obtain ⟨Ao37, co37, eo37⟩ := Kd.R_slice HO283.out; subst eo37; obtain ⟨Ao38, co38, eo38⟩ := Kd.R_slice HO286.out; subst eo38) | ((with_reducible refine gate_callee (f := 30) rfl ?_); refine goesL_ (some 29) rfl rfl Try.func30 (by kernel_rfl) rfl #[.slice Ao37 t281.length co37, .int .i64 5, .slice Ao38 y284.length co38] rfl (by (try simp only [List.map_toArray, List.map_cons, List.map_nil]); first | done | rfl | (simp only [List.length_drop, List.length_take]; rfl)) ?_; (with_reducible refine (place_lay.calls k (fun k_ => some k_ = (.slice Ao37 t281.length co37 : Value).ownBlock) (.slice Ao37 t281.length co37) t281 5 _ _ y284 t287 w _ ?side1 ?side2 ?side3 ?side4 A8.out).mono ?_); (case side1 => repeat (first | (with_reducible first | exact HB.out | apply below_alloc | apply pw_below_drewN | apply below_drew1 | refine below_set ?_ GE259.out) | exact HB.out)); (case side2 => exact Kd.R_tight rfl HO283.out); (case side3 => exact Kd.C_kept_own ((Kd.R_apart' HO286.out (Kd.R_typed HO283.out) (by decide))) (fun k_ hk_ hs_ => (hk_.2) hs_)); (case side4 => exact (Kd.R_reads' HO286.out).2.1); rintro e w39 ⟨v288, rfl, ho0, hb, hkp⟩; refine ⟨_, rfl, ?_⟩; replace HO249 := Aside0.mk (Kd.R_mono (ok' := fun k_ => True) (Kd.R_keptB ((Kd.R_apart' HO249.out (Kd.R_typed HO283.out) (by decide))) hkp (fun k_ hk_ hs_ => (hk_.2) hs_)) (fun k_ hk_ => trivial)); replace HO253 := Aside0.mk (Kd.R_mono (ok' := fun k_ => some k_ ≠ (.slice Ao14 t254.length co14 : Value).ownBlock) (Kd.R_keptB ((Kd.R_apart' HO253.out (Kd.R_typed HO283.out) (by decide))) hkp (fun k_ hk_ hs_ => (hk_.2) hs_)) (fun k_ hk_ => hk_.1.1)); replace HO256 := Aside0.mk (Kd.R_mono (ok' := fun k_ => some k_ ≠ (.slice Ao13 t251.length co13 : Value).ownBlock) (Kd.R_keptB ((Kd.R_apart' HO256.out (Kd.R_typed HO283.out) (by decide))) hkp (fun k_ hk_ hs_ => (hk_.2) hs_)) (fun k_ hk_ => hk_.1.1)); replace BK259 := Aside0.mk (blk_kept (pk BK259) hkp (fun hs_ => (fun e_ => (Kd.R_ne HO283.out BK259.out (by decide)) e_) hs_)); replace HO262 := Aside0.mk (Kd.R_mono (ok' := fun k_ => some k_ ≠ (.slice Ao23 y266.length co23 : Value).ownBlock ∧ some k_ ≠ (.slice Ao28 y272.length co28 : Value).ownBlock ∧ some k_ ≠ (.slice Ao33 y278.length co33 : Value).ownBlock ∧ some k_ ≠ (.slice Ao38 y284.length co38 : Value).ownBlock) (Kd.R_keptB ((Kd.R_apart' HO262.out (Kd.R_typed HO283.out) (by decide))) hkp (fun k_ hk_ hs_ => (hk_.2) hs_)) (fun k_ hk_ => ⟨hk_.1.1.1.1, hk_.1.1.1.2.1, hk_.1.1.1.2.2, hk_.1.1.2⟩)); replace HO268 := Aside0.mk (Kd.R_mono (ok' := fun k_ => some k_ ≠ (.slice Ao18 y260.length co18 : Value).ownBlock ∧ some k_ ≠ (.slice Ao28 y272.length co28 : Value).ownBlock ∧ some k_ ≠ (.slice Ao33 y278.length co33 : Value).ownBlock ∧ some k_ ≠ (.slice Ao38 y284.length co38 : Value).ownBlock) (Kd.R_keptB ((Kd.R_apart' HO268.out (Kd.R_typed HO283.out) (by decide))) hkp (fun k_ hk_ hs_ => (hk_.2) hs_)) (fun k_ hk_ => ⟨hk_.1.1.1.1, hk_.1.1.1.2.1, hk_.1.1.1.2.2, hk_.1.1.2⟩)); replace HO274 := Aside0.mk (Kd.R_mono (ok' := fun k_ => some k_ ≠ (.slice Ao18 y260.length co18 : Value).ownBlock ∧ some k_ ≠ (.slice Ao23 y266.length co23 : Value).ownBlock ∧ some k_ ≠ (.slice Ao33 y278.length co33 : Value).ownBlock ∧ some k_ ≠ (.slice Ao38 y284.length co38 : Value).ownBlock) (Kd.R_keptB ((Kd.R_apart' HO274.out (Kd.R_typed HO283.out) (by decide))) hkp (fun k_ hk_ hs_ => (hk_.2) hs_)) (fun k_ hk_ => ⟨hk_.1.1.1.1, hk_.1.1.1.2.1, hk_.1.1.1.2.2, hk_.1.1.2⟩)); replace HO280 := Aside0.mk (Kd.R_mono (ok' := fun k_ => some k_ ≠ (.slice Ao18 y260.length co18 : Value).ownBlock ∧ some k_ ≠ (.slice Ao23 y266.length co23 : Value).ownBlock ∧ some k_ ≠ (.slice Ao28 y272.length co28 : Value).ownBlock ∧ some k_ ≠ (.slice Ao38 y284.length co38 : Value).ownBlock) (Kd.R_keptB ((Kd.R_apart' HO280.out (Kd.R_typed HO283.out) (by decide))) hkp (fun k_ hk_ hs_ => (hk_.2) hs_)) (fun k_ hk_ => ⟨hk_.1.1.1.1, hk_.1.1.1.2.1, hk_.1.1.1.2.2, hk_.1.1.2⟩)); replace HO286 := Aside0.mk (Kd.R_mono (ok' := fun k_ => some k_ ≠ (.slice Ao18 y260.length co18 : Value).ownBlock ∧ some k_ ≠ (.slice Ao23 y266.length co23 : Value).ownBlock ∧ some k_ ≠ (.slice Ao28 y272.length co28 : Value).ownBlock ∧ some k_ ≠ (.slice Ao33 y278.length co33 : Value).ownBlock) (Kd.R_keptB ((Kd.R_apart' HO286.out (Kd.R_typed HO283.out) (by decide))) hkp (fun k_ hk_ hs_ => (hk_.2) hs_)) (fun k_ hk_ => ⟨hk_.1.1.1.1.1.2, hk_.1.1.1.1.2, hk_.1.1.1.2, hk_.1.1.2⟩)); have HO289 := Aside0.mk (Kd.R_mono (ok' := fun k_ => True) ho0 (fun k_ hk_ => trivial)); replace HB := Aside0.mk (hb); clear HO283; (try clear hb); (try clear hkp); (try clear ho0); obtain ⟨hcz40_0, hcz40_1, hcz40_2, hcz40_3, hcz40_4, hcz40_5, hcz40_6, hcz40_7, hcz40_8, hcz40_9, hcz40_10, hcz40_11, hfz40_0, hfz40_1, hfz40_2, hfz40_3, hfz40_4, hfz40_5, hfz40_6, hfz40_7, hfz40_8, hfz40_9, hfz40_10, hfz40_11⟩ := bc12 BK259.out))
    go_loopg [6, 34] k (fun kq v6 v34 w' => ∃ (x6_1 : List (S32)) (x34_1 : Int), v34 = .int .i64 x34_1 ∧ Aside0 (place_Of.l0 kq x6_1 (t247.length : Int) x34_1 t240 t241 t242 t243 t244 t245 t246 t247 t250 t251 t254 t257 = some (r1, r2)) ∧ Aside0 (kq ≤ k) ∧ Aside0 (Kd.R k32 32 w' w.heap.size (fun _ => True) v6 x6_1) ∧ Aside0 (Kd.R (Kd.int .u32) 40 w' w.heap.size (fun _ => True) (.slice Ao12 t247.length co12) t247) ∧ Aside0 (Kd.R (Kd.int .u8) 5 w' w.heap.size (fun k_ => some k_ ≠ ((.slice Ao14 t254.length co14) : Value).ownBlock) (.slice Ao13 t251.length co13) t251) ∧ Aside0 (Kd.R (Kd.int .u8) 5 w' w.heap.size (fun k_ => some k_ ≠ ((.slice Ao13 t251.length co13) : Value).ownBlock) (.slice Ao14 t254.length co14) t254) ∧ Aside0 (w'.heap[gb259]? = some (.cells #[.bool t240, .bool t241, .bool t242, .int .i64 t243, .int .u16 t244, .int .u32 t245, .int .u32 t246, (.slice Ao12 t247.length co12), .int .u16 t250, (.slice Ao13 t251.length co13), (.slice Ao14 t254.length co14), .int .i64 t257] 45 (0, 0))) ∧ Aside0 (Below w.heap.size w w'))
    case atStart => exact ⟨(t287), (0), (by first | rfl | (simp; done) | (simp [*]; done)), H', ⟨Nat.le_refl _⟩, ⟨by (with_reducible repeat (first | apply Kd.R_alloc | apply Kd.R_drewN | apply Kd.R_drew)); exact HO289.out⟩, ⟨by (with_reducible repeat (first | apply Kd.R_alloc | apply Kd.R_drewN | apply Kd.R_drew)); exact HO249.out⟩, ⟨by (with_reducible repeat (first | apply Kd.R_alloc | apply Kd.R_drewN | apply Kd.R_drew)); exact HO253.out⟩, ⟨by (with_reducible repeat (first | apply Kd.R_alloc | apply Kd.R_drewN | apply Kd.R_drew)); exact HO256.out⟩, ⟨by (with_reducible repeat (first | refine blk_drewN ?_ _ | refine blk_drew ?_ | refine blk_alloc ?_ _)); exact BK259.out⟩, ⟨by repeat (first | (with_reducible first | exact HB.out | apply below_alloc | apply pw_below_drewN | apply below_drew1 | refine below_set ?_ GE259.out) | exact HB.out)⟩⟩
    case round =>
      clear H'
      try clear c1
      try clear p2
      try clear c3
      try clear c3b0
      try clear c3b1
      try clear c10
      try clear c17
      try clear c30
      try clear hcz11_0
      try clear hcz11_1
      try clear hcz11_10
      try clear hcz11_11
      try clear hcz11_2
      try clear hcz11_3
      try clear hcz11_4
      try clear hcz11_5
      try clear hcz11_6
      try clear hcz11_7
      try clear hcz11_8
      try clear hcz11_9
      try clear hcz40_0
      try clear hcz40_1
      try clear hcz40_10
      try clear hcz40_11
      try clear hcz40_2
      try clear hcz40_3
      try clear hcz40_4
      try clear hcz40_5
      try clear hcz40_6
      try clear hcz40_7
      try clear hcz40_8
      try clear hcz40_9
      try clear hfz11_0
      try clear hfz11_1
      try clear hfz11_10
      try clear hfz11_11
      try clear hfz11_2
      try clear hfz11_3
      try clear hfz11_4
      try clear hfz11_5
      try clear hfz11_6
      try clear hfz11_7
      try clear hfz11_8
      try clear hfz11_9
      try clear hfz40_0
      try clear hfz40_1
      try clear hfz40_10
      try clear hfz40_11
      try clear hfz40_2
      try clear hfz40_3
      try clear hfz40_4
      try clear hfz40_5
      try clear hfz40_6
      try clear hfz40_7
      try clear hfz40_8
      try clear hfz40_9
      obtain ⟨x6_1, x34_1, rfl, HA, HK1, HO_6, HO_260007, HO_260009, HO_260010, BK259, HB⟩ := hrel
      cases gk with
      | zero => exact absurd HA.out (by simp [place_Of.l0])
      | succ k1 =>
        have H := HA.out
        clear HA
        simp only [place_Of.l0] at H
        by_cases c41 : x34_1 < (t247.length : Int)
        · rw [if_pos c41] at H
          have c41b0 : decide (x34_1 < (t247.length : Int)) = true := decide_eq_true c41
          clear c41
          obtain ⟨y290, hy290⟩ : ∃ y_ : List Int, y_ = (([4] : List Int)) := ⟨_, rfl⟩
          replace H : ((place_lay.f k1 x6_1 6 y290).bind fun t293 => (place_Of.l0 k1 t293 (t247.length : Int) (wrap64 (x34_1 + 1)) t240 t241 t242 t243 t244 t245 t246 t247 t250 t251 t254 t257)) = some (r1, r2) := by first | (rw [hy290]; with_reducible exact H) | (have H2_ := (Option.bind_some _ _).symm.trans H; rw [hy290]; with_reducible exact H2_) | (have H2_ := (Option.bind_some _ _).symm.trans H; with_reducible exact H2_) | with_reducible exact H | (rw [hy290]; exact H) | exact H
          have Ny290 := Aside0.mk hy290
          clear hy290
          replace H := Option.bind_eq_some_iff.mp H
          obtain ⟨t293, A420, H⟩ := H
          replace H : (place_Of.l0 k1 t293 (t247.length : Int) (wrap64 (x34_1 + 1)) t240 t241 t242 t243 t244 t245 t246 t247 t250 t251 t254 t257) = some (r1, r2) := H
          have A42 := Aside0.mk A420
          clear A420
          have H' := Aside0.mk H
          clear H
          go_wp2_with (first | ((with_reducible refine gate_dst (N := 37) rfl ?_); refine Kd.R_lit (Kd.int .i64) _ 3 ?hg (N := 37) ?hd (xs := ([4] : List Int)) (inner := [.int .i64 4]) (ok := fun _ => True) (okp := fun _ => True) ?hr ?hp (fun _ hk => hk) trivial (Below.refl _ _) (Nat.le_refl _) (by simp) ?_; (case hd => rfl); (case hg => rfl); (case hr => first | (go_simp; done) | (go_simp; rfl)); (case hp => exact (Reps.one (show Kd.M (Kd.int .i64) _ _ _ 4 [.int .i64 4] from rfl) (Reps.none _ _))); intro v291 w43 ho44 hb hg_ hnew_; clear hg_ hnew_; (first | rw [← Ny290.out] at ho44 | (simp only [Int.reduceToNat] at ho44; rw [← Ny290.out] at ho44)); replace HO_6 := rbE HO_6 hb; replace HO_260007 := rbE HO_260007 hb; replace HO_260009 := rbE HO_260009 hb; replace HO_260010 := rbE HO_260010 hb; have HO292 := Aside0.mk (Kd.R_lower ho44 (below_size (pB HB))); replace BK259 := bbE BK259 hb; replace HB := bstE HB hb; clear hb ho44; obtain ⟨Ao45, co45, eo45⟩ := Kd.R_slice HO_6.out; subst eo45; obtain ⟨Ao46, co46, eo46⟩ := Kd.R_slice HO292.out; subst eo46) | ((with_reducible refine gate_callee (f := 30) rfl ?_); refine goesL_ (some 38) rfl rfl Try.func30 (by kernel_rfl) rfl #[.slice Ao45 x6_1.length co45, .int .i64 6, .slice Ao46 y290.length co46] rfl (by (try simp only [List.map_toArray, List.map_cons, List.map_nil]); first | done | rfl | (simp only [List.length_drop, List.length_take]; rfl)) ?_; (with_reducible refine (place_lay.calls k1 (fun k_ => some k_ = (.slice Ao45 x6_1.length co45 : Value).ownBlock) (.slice Ao45 x6_1.length co45) x6_1 6 _ _ y290 t293 w _ ?side1 ?side2 ?side3 ?side4 A42.out).mono ?_); (case side1 => repeat (first | (with_reducible first | exact HB.out | apply below_alloc | apply pw_below_drewN | apply below_drew1 | refine below_set ?_ GE259.out) | exact HB.out)); (case side2 => exact Kd.R_tight rfl HO_6.out); (case side3 => exact Kd.C_kept_own ((Kd.R_apart' HO292.out (Kd.R_typed HO_6.out) (by decide))) (fun k_ hk_ hs_ => (hk_.2) hs_)); (case side4 => exact (Kd.R_reads' HO292.out).2.1); rintro e w47 ⟨v294, rfl, ho0, hb, hkp⟩; refine ⟨_, rfl, ?_⟩; replace HO_260007 := Aside0.mk (Kd.R_mono (ok' := fun k_ => True) (Kd.R_keptB ((Kd.R_apart' HO_260007.out (Kd.R_typed HO_6.out) (by decide))) hkp (fun k_ hk_ hs_ => (hk_.2) hs_)) (fun k_ hk_ => trivial)); replace HO_260009 := Aside0.mk (Kd.R_mono (ok' := fun k_ => some k_ ≠ (.slice Ao14 t254.length co14 : Value).ownBlock) (Kd.R_keptB ((Kd.R_apart' HO_260009.out (Kd.R_typed HO_6.out) (by decide))) hkp (fun k_ hk_ hs_ => (hk_.2) hs_)) (fun k_ hk_ => hk_.1.1)); replace HO_260010 := Aside0.mk (Kd.R_mono (ok' := fun k_ => some k_ ≠ (.slice Ao13 t251.length co13 : Value).ownBlock) (Kd.R_keptB ((Kd.R_apart' HO_260010.out (Kd.R_typed HO_6.out) (by decide))) hkp (fun k_ hk_ hs_ => (hk_.2) hs_)) (fun k_ hk_ => hk_.1.1)); replace BK259 := Aside0.mk (blk_kept (pk BK259) hkp (fun hs_ => (fun e_ => (Kd.R_ne HO_6.out BK259.out (by decide)) e_) hs_)); replace HO292 := Aside0.mk (Kd.R_mono (ok' := fun k_ => True) (Kd.R_keptB ((Kd.R_apart' HO292.out (Kd.R_typed HO_6.out) (by decide))) hkp (fun k_ hk_ hs_ => (hk_.2) hs_)) (fun k_ hk_ => trivial)); have HO295 := Aside0.mk (Kd.R_mono (ok' := fun k_ => True) ho0 (fun k_ hk_ => trivial)); replace HB := Aside0.mk (hb); clear HO_6; (try clear hb); (try clear hkp); (try clear ho0)))
          go_roundg k1
          case measure => have := HK1.out; omega
          case rel => exact ⟨(t293), (wrap64 (x34_1 + 1)), (by first | rfl | (simp; done) | (simp [*]; done)), H', ⟨by have := HK1.out; omega⟩, ⟨by (with_reducible repeat (first | apply Kd.R_alloc | apply Kd.R_drewN | apply Kd.R_drew)); exact HO295.out⟩, ⟨by (with_reducible repeat (first | apply Kd.R_alloc | apply Kd.R_drewN | apply Kd.R_drew)); exact HO_260007.out⟩, ⟨by (with_reducible repeat (first | apply Kd.R_alloc | apply Kd.R_drewN | apply Kd.R_drew)); exact HO_260009.out⟩, ⟨by (with_reducible repeat (first | apply Kd.R_alloc | apply Kd.R_drewN | apply Kd.R_drew)); exact HO_260010.out⟩, ⟨by (with_reducible repeat (first | refine blk_drewN ?_ _ | refine blk_drew ?_ | refine blk_alloc ?_ _)); exact BK259.out⟩, ⟨by repeat (first | (with_reducible first | exact HB.out | apply below_alloc | apply pw_below_drewN | apply below_drew1 | refine below_set ?_ GE259.out) | exact HB.out)⟩⟩
        rw [if_neg c41] at H
        have c41b0 : decide (x34_1 < (t247.length : Int)) = false := decide_eq_false c41
        clear c41
        have HC48 := Aside0.mk H
        clear H
        obtain ⟨hcz49_0, hcz49_1, hcz49_2, hcz49_3, hcz49_4, hcz49_5, hcz49_6, hcz49_7, hcz49_8, hcz49_9, hcz49_10, hcz49_11, hfz49_0, hfz49_1, hfz49_2, hfz49_3, hfz49_4, hfz49_5, hfz49_6, hfz49_7, hfz49_8, hfz49_9, hfz49_10, hfz49_11⟩ := bc12 BK259.out
        go_upto_if 42 with (fail)
        go_cut [6] (fun v6 wc => ∃ (kq : Nat) (x6_47 : List (S32)), Aside0 (place_Of.j1 kq x6_47 t240 t241 t242 t243 t244 t245 t246 t247 t250 t251 t254 t257 = some (r1, r2)) ∧ Aside0 (kq ≤ k1) ∧ Aside0 (Kd.R k32 32 wc w.heap.size (fun _ => True) v6 x6_47) ∧ Aside0 (Kd.R (Kd.int .u32) 40 wc w.heap.size (fun _ => True) (.slice Ao12 t247.length co12) t247) ∧ Aside0 (Kd.R (Kd.int .u8) 5 wc w.heap.size (fun k_ => some k_ ≠ ((.slice Ao14 t254.length co14) : Value).ownBlock) (.slice Ao13 t251.length co13) t251) ∧ Aside0 (Kd.R (Kd.int .u8) 5 wc w.heap.size (fun k_ => some k_ ≠ ((.slice Ao13 t251.length co13) : Value).ownBlock) (.slice Ao14 t254.length co14) t254) ∧ Aside0 (wc.heap[gb259]? = some (.cells #[.bool t240, .bool t241, .bool t242, .int .i64 t243, .int .u16 t244, .int .u32 t245, .int .u32 t246, (.slice Ao12 t247.length co12), .int .u16 t250, (.slice Ao13 t251.length co13), (.slice Ao14 t254.length co14), .int .i64 t257] 45 (0, 0))) ∧ Aside0 (Below w.heap.size w wc))
        case first =>
          have H := HC48.out
          clear HC48
          by_cases c50 : t241 = true
          · subst c50
            have H1 : ((place_lay.f k1 x6_1 7 (([2] : List Int))).bind fun t299 => ((place_lay.f k1 t299 8 (([2] : List Int))).bind fun t305 => ((place_lay.f k1 t305 9 (([(t251.length : Int)] : List Int))).bind fun t311 => (place_Of.j1 k1 t311 t240 true t242 t243 t244 t245 t246 t247 t250 t251 t254 t257)))) = some (r1, r2) := by rw [if_pos rfl] at H; exact H
            clear H
            have H := H1
            clear H1
            obtain ⟨y296, hy296⟩ : ∃ y_ : List Int, y_ = (([2] : List Int)) := ⟨_, rfl⟩
            replace H : ((place_lay.f k1 x6_1 7 y296).bind fun t299 => ((place_lay.f k1 t299 8 (([2] : List Int))).bind fun t305 => ((place_lay.f k1 t305 9 (([(t251.length : Int)] : List Int))).bind fun t311 => (place_Of.j1 k1 t311 t240 true t242 t243 t244 t245 t246 t247 t250 t251 t254 t257)))) = some (r1, r2) := by first | (rw [hy296]; with_reducible exact H) | (have H2_ := (Option.bind_some _ _).symm.trans H; rw [hy296]; with_reducible exact H2_) | (have H2_ := (Option.bind_some _ _).symm.trans H; with_reducible exact H2_) | with_reducible exact H | (rw [hy296]; exact H) | exact H
            have Ny296 := Aside0.mk hy296
            clear hy296
            replace H := Option.bind_eq_some_iff.mp H
            obtain ⟨t299, A510, H⟩ := H
            replace H : ((place_lay.f k1 t299 8 (([2] : List Int))).bind fun t305 => ((place_lay.f k1 t305 9 (([(t251.length : Int)] : List Int))).bind fun t311 => (place_Of.j1 k1 t311 t240 true t242 t243 t244 t245 t246 t247 t250 t251 t254 t257))) = some (r1, r2) := H
            have A51 := Aside0.mk A510
            clear A510
            obtain ⟨y302, hy302⟩ : ∃ y_ : List Int, y_ = (([2] : List Int)) := ⟨_, rfl⟩
            replace H : ((place_lay.f k1 t299 8 y302).bind fun t305 => ((place_lay.f k1 t305 9 (([(t251.length : Int)] : List Int))).bind fun t311 => (place_Of.j1 k1 t311 t240 true t242 t243 t244 t245 t246 t247 t250 t251 t254 t257))) = some (r1, r2) := by first | (rw [hy302]; with_reducible exact H) | (have H2_ := (Option.bind_some _ _).symm.trans H; rw [hy302]; with_reducible exact H2_) | (have H2_ := (Option.bind_some _ _).symm.trans H; with_reducible exact H2_) | with_reducible exact H | (rw [hy302]; exact H) | exact H
            have Ny302 := Aside0.mk hy302
            clear hy302
            replace H := Option.bind_eq_some_iff.mp H
            obtain ⟨t305, A520, H⟩ := H
            replace H : ((place_lay.f k1 t305 9 (([(t251.length : Int)] : List Int))).bind fun t311 => (place_Of.j1 k1 t311 t240 true t242 t243 t244 t245 t246 t247 t250 t251 t254 t257)) = some (r1, r2) := H
            have A52 := Aside0.mk A520
            clear A520
            obtain ⟨y308, hy308⟩ : ∃ y_ : List Int, y_ = (([(t251.length : Int)] : List Int)) := ⟨_, rfl⟩
            replace H : ((place_lay.f k1 t305 9 y308).bind fun t311 => (place_Of.j1 k1 t311 t240 true t242 t243 t244 t245 t246 t247 t250 t251 t254 t257)) = some (r1, r2) := by first | (rw [hy308]; with_reducible exact H) | (have H2_ := (Option.bind_some _ _).symm.trans H; rw [hy308]; with_reducible exact H2_) | (have H2_ := (Option.bind_some _ _).symm.trans H; with_reducible exact H2_) | with_reducible exact H | (rw [hy308]; exact H) | exact H
            have Ny308 := Aside0.mk hy308
            clear hy308
            replace H := Option.bind_eq_some_iff.mp H
            obtain ⟨t311, A530, H⟩ := H
            replace H : (place_Of.j1 k1 t311 t240 true t242 t243 t244 t245 t246 t247 t250 t251 t254 t257) = some (r1, r2) := H
            have A53 := Aside0.mk A530
            clear A530
            have H' := Aside0.mk H
            clear H
            go_wp2_with (first | ((with_reducible refine gate_dst (N := 44) rfl ?_); refine Kd.R_lit (Kd.int .i64) _ 3 ?hg (N := 44) ?hd (xs := ([2] : List Int)) (inner := [.int .i64 2]) (ok := fun _ => True) (okp := fun _ => True) ?hr ?hp (fun _ hk => hk) trivial (Below.refl _ _) (Nat.le_refl _) (by simp) ?_; (case hd => rfl); (case hg => rfl); (case hr => first | (go_simp; done) | (go_simp; rfl)); (case hp => exact (Reps.one (show Kd.M (Kd.int .i64) _ _ _ 2 [.int .i64 2] from rfl) (Reps.none _ _))); intro v297 w54 ho55 hb hg_ hnew_; clear hg_ hnew_; (first | rw [← Ny296.out] at ho55 | (simp only [Int.reduceToNat] at ho55; rw [← Ny296.out] at ho55)); replace HO_6 := rbE HO_6 hb; replace HO_260007 := rbE HO_260007 hb; replace HO_260009 := rbE HO_260009 hb; replace HO_260010 := rbE HO_260010 hb; have HO298 := Aside0.mk (Kd.R_lower ho55 (below_size (pB HB))); replace BK259 := bbE BK259 hb; replace HB := bstE HB hb; clear hb ho55; obtain ⟨Ao56, co56, eo56⟩ := Kd.R_slice HO_6.out; subst eo56; obtain ⟨Ao57, co57, eo57⟩ := Kd.R_slice HO298.out; subst eo57) | ((with_reducible refine gate_callee (f := 30) rfl ?_); refine goesL_ (some 45) rfl rfl Try.func30 (by kernel_rfl) rfl #[.slice Ao56 x6_1.length co56, .int .i64 7, .slice Ao57 y296.length co57] rfl (by (try simp only [List.map_toArray, List.map_cons, List.map_nil]); first | done | rfl | (simp only [List.length_drop, List.length_take]; rfl)) ?_; (with_reducible refine (place_lay.calls k1 (fun k_ => some k_ = (.slice Ao56 x6_1.length co56 : Value).ownBlock) (.slice Ao56 x6_1.length co56) x6_1 7 _ _ y296 t299 w _ ?side1 ?side2 ?side3 ?side4 A51.out).mono ?_); (case side1 => repeat (first | (with_reducible first | exact HB.out | apply below_alloc | apply pw_below_drewN | apply below_drew1 | refine below_set ?_ GE259.out) | exact HB.out)); (case side2 => exact Kd.R_tight rfl HO_6.out); (case side3 => exact Kd.C_kept_own ((Kd.R_apart' HO298.out (Kd.R_typed HO_6.out) (by decide))) (fun k_ hk_ hs_ => (hk_.2) hs_)); (case side4 => exact (Kd.R_reads' HO298.out).2.1); rintro e w58 ⟨v300, rfl, ho0, hb, hkp⟩; refine ⟨_, rfl, ?_⟩; replace HO_260007 := Aside0.mk (Kd.R_mono (ok' := fun k_ => True) (Kd.R_keptB ((Kd.R_apart' HO_260007.out (Kd.R_typed HO_6.out) (by decide))) hkp (fun k_ hk_ hs_ => (hk_.2) hs_)) (fun k_ hk_ => trivial)); replace HO_260009 := Aside0.mk (Kd.R_mono (ok' := fun k_ => some k_ ≠ (.slice Ao14 t254.length co14 : Value).ownBlock) (Kd.R_keptB ((Kd.R_apart' HO_260009.out (Kd.R_typed HO_6.out) (by decide))) hkp (fun k_ hk_ hs_ => (hk_.2) hs_)) (fun k_ hk_ => hk_.1.1)); replace HO_260010 := Aside0.mk (Kd.R_mono (ok' := fun k_ => some k_ ≠ (.slice Ao13 t251.length co13 : Value).ownBlock) (Kd.R_keptB ((Kd.R_apart' HO_260010.out (Kd.R_typed HO_6.out) (by decide))) hkp (fun k_ hk_ hs_ => (hk_.2) hs_)) (fun k_ hk_ => hk_.1.1)); replace BK259 := Aside0.mk (blk_kept (pk BK259) hkp (fun hs_ => (fun e_ => (Kd.R_ne HO_6.out BK259.out (by decide)) e_) hs_)); replace HO298 := Aside0.mk (Kd.R_mono (ok' := fun k_ => True) (Kd.R_keptB ((Kd.R_apart' HO298.out (Kd.R_typed HO_6.out) (by decide))) hkp (fun k_ hk_ hs_ => (hk_.2) hs_)) (fun k_ hk_ => trivial)); have HO301 := Aside0.mk (Kd.R_mono (ok' := fun k_ => True) ho0 (fun k_ hk_ => trivial)); replace HB := Aside0.mk (hb); clear HO_6; (try clear hb); (try clear hkp); (try clear ho0)) | ((with_reducible refine gate_dst (N := 47) rfl ?_); refine Kd.R_lit (Kd.int .i64) _ 3 ?hg (N := 47) ?hd (xs := ([2] : List Int)) (inner := [.int .i64 2]) (ok := fun _ => True) (okp := fun _ => True) ?hr ?hp (fun _ hk => hk) trivial (Below.refl _ _) (Nat.le_refl _) (by simp) ?_; (case hd => rfl); (case hg => rfl); (case hr => first | (go_simp; done) | (go_simp; rfl)); (case hp => exact (Reps.one (show Kd.M (Kd.int .i64) _ _ _ 2 [.int .i64 2] from rfl) (Reps.none _ _))); intro v303 w59 ho60 hb hg_ hnew_; clear hg_ hnew_; (first | rw [← Ny302.out] at ho60 | (simp only [Int.reduceToNat] at ho60; rw [← Ny302.out] at ho60)); replace HO_260007 := rbE HO_260007 hb; replace HO_260009 := rbE HO_260009 hb; replace HO_260010 := rbE HO_260010 hb; have n3_ := Aside0.mk (Kd.R_elder' (pR HO298) (Kd.R_base ho60) hb); replace HO301 := rbE HO301 hb; have HO304 := Aside0.mk (Kd.R_lower (Kd.R_new' ho60 (Kd.R_lt (pR HO298))) (below_size (pB HB))); replace BK259 := bbE BK259 hb; replace HB := bstE HB hb; clear HO298; have HO298 := n3_; clear n3_; clear hb ho60; obtain ⟨Ao61, co61, eo61⟩ := Kd.R_slice HO301.out; subst eo61; obtain ⟨Ao62, co62, eo62⟩ := Kd.R_slice HO304.out; subst eo62) | ((with_reducible refine gate_callee (f := 30) rfl ?_); refine goesL_ (some 48) rfl rfl Try.func30 (by kernel_rfl) rfl #[.slice Ao61 t299.length co61, .int .i64 8, .slice Ao62 y302.length co62] rfl (by (try simp only [List.map_toArray, List.map_cons, List.map_nil]); first | done | rfl | (simp only [List.length_drop, List.length_take]; rfl)) ?_; (with_reducible refine (place_lay.calls k1 (fun k_ => some k_ = (.slice Ao61 t299.length co61 : Value).ownBlock) (.slice Ao61 t299.length co61) t299 8 _ _ y302 t305 w _ ?side1 ?side2 ?side3 ?side4 A52.out).mono ?_); (case side1 => repeat (first | (with_reducible first | exact HB.out | apply below_alloc | apply pw_below_drewN | apply below_drew1 | refine below_set ?_ GE259.out) | exact HB.out)); (case side2 => exact Kd.R_tight rfl HO301.out); (case side3 => exact Kd.C_kept_own ((Kd.R_apart' HO304.out (Kd.R_typed HO301.out) (by decide))) (fun k_ hk_ hs_ => (hk_.2) hs_)); (case side4 => exact (Kd.R_reads' HO304.out).2.1); rintro e w63 ⟨v306, rfl, ho0, hb, hkp⟩; refine ⟨_, rfl, ?_⟩; replace HO_260007 := Aside0.mk (Kd.R_mono (ok' := fun k_ => True) (Kd.R_keptB ((Kd.R_apart' HO_260007.out (Kd.R_typed HO301.out) (by decide))) hkp (fun k_ hk_ hs_ => (hk_.2) hs_)) (fun k_ hk_ => trivial)); replace HO_260009 := Aside0.mk (Kd.R_mono (ok' := fun k_ => some k_ ≠ (.slice Ao14 t254.length co14 : Value).ownBlock) (Kd.R_keptB ((Kd.R_apart' HO_260009.out (Kd.R_typed HO301.out) (by decide))) hkp (fun k_ hk_ hs_ => (hk_.2) hs_)) (fun k_ hk_ => hk_.1.1)); replace HO_260010 := Aside0.mk (Kd.R_mono (ok' := fun k_ => some k_ ≠ (.slice Ao13 t251.length co13 : Value).ownBlock) (Kd.R_keptB ((Kd.R_apart' HO_260010.out (Kd.R_typed HO301.out) (by decide))) hkp (fun k_ hk_ hs_ => (hk_.2) hs_)) (fun k_ hk_ => hk_.1.1)); replace BK259 := Aside0.mk (blk_kept (pk BK259) hkp (fun hs_ => (fun e_ => (Kd.R_ne HO301.out BK259.out (by decide)) e_) hs_)); replace HO298 := Aside0.mk (Kd.R_mono (ok' := fun k_ => some k_ ≠ (.slice Ao62 y302.length co62 : Value).ownBlock) (Kd.R_keptB ((Kd.R_apart' HO298.out (Kd.R_typed HO301.out) (by decide))) hkp (fun k_ hk_ hs_ => (hk_.2) hs_)) (fun k_ hk_ => hk_.1.1.2)); replace HO304 := Aside0.mk (Kd.R_mono (ok' := fun k_ => some k_ ≠ (.slice Ao57 y296.length co57 : Value).ownBlock) (Kd.R_keptB ((Kd.R_apart' HO304.out (Kd.R_typed HO301.out) (by decide))) hkp (fun k_ hk_ hs_ => (hk_.2) hs_)) (fun k_ hk_ => hk_.1.1.2)); have HO307 := Aside0.mk (Kd.R_mono (ok' := fun k_ => True) ho0 (fun k_ hk_ => trivial)); replace HB := Aside0.mk (hb); clear HO301; (try clear hb); (try clear hkp); (try clear ho0); obtain ⟨hcz64_0, hcz64_1, hcz64_2, hcz64_3, hcz64_4, hcz64_5, hcz64_6, hcz64_7, hcz64_8, hcz64_9, hcz64_10, hcz64_11, hfz64_0, hfz64_1, hfz64_2, hfz64_3, hfz64_4, hfz64_5, hfz64_6, hfz64_7, hfz64_8, hfz64_9, hfz64_10, hfz64_11⟩ := bc12 BK259.out) | ((with_reducible refine gate_dst (N := 53) rfl ?_); refine Kd.R_lit (Kd.int .i64) _ 3 ?hg (N := 53) ?hd (xs := ([(t251.length : Int)] : List Int)) (inner := [.int .i64 (t251.length : Int)]) (ok := fun _ => True) (okp := fun _ => True) ?hr ?hp (fun _ hk => hk) trivial (Below.refl _ _) (Nat.le_refl _) (by simp) ?_; (case hd => rfl); (case hg => rfl); (case hr => first | (go_simp; done) | (go_simp; rfl)); (case hp => exact (Reps.one (show Kd.M (Kd.int .i64) _ _ _ (t251.length : Int) [.int .i64 (t251.length : Int)] from rfl) (Reps.none _ _))); intro v309 w65 ho66 hb hg_ hnew_; clear hg_ hnew_; (first | rw [← Ny308.out] at ho66 | (simp only [Int.reduceToNat] at ho66; rw [← Ny308.out] at ho66)); replace HO_260007 := rbE HO_260007 hb; replace HO_260009 := rbE HO_260009 hb; replace HO_260010 := rbE HO_260010 hb; have n3_ := Aside0.mk (Kd.R_elder' (pR HO298) (Kd.R_base ho66) hb); have n4_ := Aside0.mk (Kd.R_elder' (pR HO304) (Kd.R_base ho66) hb); replace HO307 := rbE HO307 hb; have HO310 := Aside0.mk (Kd.R_lower (Kd.R_new' (Kd.R_new' ho66 (Kd.R_lt (pR HO298))) (Kd.R_lt (pR HO304))) (below_size (pB HB))); replace BK259 := bbE BK259 hb; replace HB := bstE HB hb; clear HO298; clear HO304; have HO298 := n3_; have HO304 := n4_; clear n3_ n4_; clear hb ho66; obtain ⟨Ao67, co67, eo67⟩ := Kd.R_slice HO307.out; subst eo67; obtain ⟨Ao68, co68, eo68⟩ := Kd.R_slice HO310.out; subst eo68) | ((with_reducible refine gate_callee (f := 30) rfl ?_); refine goesL_ (some 54) rfl rfl Try.func30 (by kernel_rfl) rfl #[.slice Ao67 t305.length co67, .int .i64 9, .slice Ao68 y308.length co68] rfl (by (try simp only [List.map_toArray, List.map_cons, List.map_nil]); first | done | rfl | (simp only [List.length_drop, List.length_take]; rfl)) ?_; (with_reducible refine (place_lay.calls k1 (fun k_ => some k_ = (.slice Ao67 t305.length co67 : Value).ownBlock) (.slice Ao67 t305.length co67) t305 9 _ _ y308 t311 w _ ?side1 ?side2 ?side3 ?side4 A53.out).mono ?_); (case side1 => repeat (first | (with_reducible first | exact HB.out | apply below_alloc | apply pw_below_drewN | apply below_drew1 | refine below_set ?_ GE259.out) | exact HB.out)); (case side2 => exact Kd.R_tight rfl HO307.out); (case side3 => exact Kd.C_kept_own ((Kd.R_apart' HO310.out (Kd.R_typed HO307.out) (by decide))) (fun k_ hk_ hs_ => (hk_.2) hs_)); (case side4 => exact (Kd.R_reads' HO310.out).2.1); rintro e w69 ⟨v312, rfl, ho0, hb, hkp⟩; refine ⟨_, rfl, ?_⟩; replace HO_260007 := Aside0.mk (Kd.R_mono (ok' := fun k_ => True) (Kd.R_keptB ((Kd.R_apart' HO_260007.out (Kd.R_typed HO307.out) (by decide))) hkp (fun k_ hk_ hs_ => (hk_.2) hs_)) (fun k_ hk_ => trivial)); replace HO_260009 := Aside0.mk (Kd.R_mono (ok' := fun k_ => some k_ ≠ (.slice Ao14 t254.length co14 : Value).ownBlock) (Kd.R_keptB ((Kd.R_apart' HO_260009.out (Kd.R_typed HO307.out) (by decide))) hkp (fun k_ hk_ hs_ => (hk_.2) hs_)) (fun k_ hk_ => hk_.1.1)); replace HO_260010 := Aside0.mk (Kd.R_mono (ok' := fun k_ => some k_ ≠ (.slice Ao13 t251.length co13 : Value).ownBlock) (Kd.R_keptB ((Kd.R_apart' HO_260010.out (Kd.R_typed HO307.out) (by decide))) hkp (fun k_ hk_ hs_ => (hk_.2) hs_)) (fun k_ hk_ => hk_.1.1)); replace BK259 := Aside0.mk (blk_kept (pk BK259) hkp (fun hs_ => (fun e_ => (Kd.R_ne HO307.out BK259.out (by decide)) e_) hs_)); replace HO298 := Aside0.mk (Kd.R_mono (ok' := fun k_ => some k_ ≠ (.slice Ao62 y302.length co62 : Value).ownBlock ∧ some k_ ≠ (.slice Ao68 y308.length co68 : Value).ownBlock) (Kd.R_keptB ((Kd.R_apart' HO298.out (Kd.R_typed HO307.out) (by decide))) hkp (fun k_ hk_ hs_ => (hk_.2) hs_)) (fun k_ hk_ => ⟨hk_.1.1.1, hk_.1.1.2⟩)); replace HO304 := Aside0.mk (Kd.R_mono (ok' := fun k_ => some k_ ≠ (.slice Ao57 y296.length co57 : Value).ownBlock ∧ some k_ ≠ (.slice Ao68 y308.length co68 : Value).ownBlock) (Kd.R_keptB ((Kd.R_apart' HO304.out (Kd.R_typed HO307.out) (by decide))) hkp (fun k_ hk_ hs_ => (hk_.2) hs_)) (fun k_ hk_ => ⟨hk_.1.1.1, hk_.1.1.2⟩)); replace HO310 := Aside0.mk (Kd.R_mono (ok' := fun k_ => some k_ ≠ (.slice Ao57 y296.length co57 : Value).ownBlock ∧ some k_ ≠ (.slice Ao62 y302.length co62 : Value).ownBlock) (Kd.R_keptB ((Kd.R_apart' HO310.out (Kd.R_typed HO307.out) (by decide))) hkp (fun k_ hk_ hs_ => (hk_.2) hs_)) (fun k_ hk_ => ⟨hk_.1.1.1.2, hk_.1.1.2⟩)); have HO313 := Aside0.mk (Kd.R_mono (ok' := fun k_ => True) ho0 (fun k_ hk_ => trivial)); replace HB := Aside0.mk (hb); clear HO307; (try clear hb); (try clear hkp); (try clear ho0)))
            go_meet
            case rel => exact ⟨_, (t311), H', ⟨by have := HK1.out; first | omega | exact Nat.le_refl _⟩, ⟨by (with_reducible repeat (first | apply Kd.R_alloc | apply Kd.R_drewN | apply Kd.R_drew)); exact HO313.out⟩, ⟨by (with_reducible repeat (first | apply Kd.R_alloc | apply Kd.R_drewN | apply Kd.R_drew)); exact HO_260007.out⟩, ⟨by (with_reducible repeat (first | apply Kd.R_alloc | apply Kd.R_drewN | apply Kd.R_drew)); exact HO_260009.out⟩, ⟨by (with_reducible repeat (first | apply Kd.R_alloc | apply Kd.R_drewN | apply Kd.R_drew)); exact HO_260010.out⟩, ⟨by (with_reducible repeat (first | refine blk_drewN ?_ _ | refine blk_drew ?_ | refine blk_alloc ?_ _)); exact BK259.out⟩, ⟨by repeat (first | (with_reducible first | exact HB.out | apply below_alloc | apply pw_below_drewN | apply below_drew1 | refine below_set ?_ GE259.out) | exact HB.out)⟩⟩
          replace c50 := Bool.eq_false_iff.mpr c50
          subst c50
          have H1 : (place_Of.j1 k1 x6_1 t240 false t242 t243 t244 t245 t246 t247 t250 t251 t254 t257) = some (r1, r2) := by rw [if_neg (show ¬ (false = true) by decide)] at H; exact H
          clear H
          have H := H1
          clear H1
          have H' := Aside0.mk H
          clear H
          go_wp2
          go_meet
          case rel => exact ⟨_, (x6_1), H', ⟨by have := HK1.out; first | omega | exact Nat.le_refl _⟩, ⟨by (with_reducible repeat (first | apply Kd.R_alloc | apply Kd.R_drewN | apply Kd.R_drew)); exact HO_6.out⟩, ⟨by (with_reducible repeat (first | apply Kd.R_alloc | apply Kd.R_drewN | apply Kd.R_drew)); exact HO_260007.out⟩, ⟨by (with_reducible repeat (first | apply Kd.R_alloc | apply Kd.R_drewN | apply Kd.R_drew)); exact HO_260009.out⟩, ⟨by (with_reducible repeat (first | apply Kd.R_alloc | apply Kd.R_drewN | apply Kd.R_drew)); exact HO_260010.out⟩, ⟨by (with_reducible repeat (first | refine blk_drewN ?_ _ | refine blk_drew ?_ | refine blk_alloc ?_ _)); exact BK259.out⟩, ⟨by repeat (first | (with_reducible first | exact HB.out | apply below_alloc | apply pw_below_drewN | apply below_drew1 | refine below_set ?_ GE259.out) | exact HB.out)⟩⟩
        case rest =>
          clear HC48
          try clear c1
          try clear p2
          try clear c3
          try clear c3b0
          try clear c3b1
          try clear c4
          try clear c5
          try clear p6
          try clear c10
          try clear c17
          try clear c30
          try clear c41
          try clear c41b0
          try clear c50
          try clear p64
          try clear hcz11_0
          try clear hcz11_1
          try clear hcz11_10
          try clear hcz11_11
          try clear hcz11_2
          try clear hcz11_3
          try clear hcz11_4
          try clear hcz11_5
          try clear hcz11_6
          try clear hcz11_7
          try clear hcz11_8
          try clear hcz11_9
          try clear hcz40_0
          try clear hcz40_1
          try clear hcz40_10
          try clear hcz40_11
          try clear hcz40_2
          try clear hcz40_3
          try clear hcz40_4
          try clear hcz40_5
          try clear hcz40_6
          try clear hcz40_7
          try clear hcz40_8
          try clear hcz40_9
          try clear hcz49_0
          try clear hcz49_1
          try clear hcz49_10
          try clear hcz49_11
          try clear hcz49_2
          try clear hcz49_3
          try clear hcz49_4
          try clear hcz49_5
          try clear hcz49_6
          try clear hcz49_7
          try clear hcz49_8
          try clear hcz49_9
          try clear hcz64_0
          try clear hcz64_1
          try clear hcz64_10
          try clear hcz64_11
          try clear hcz64_2
          try clear hcz64_3
          try clear hcz64_4
          try clear hcz64_5
          try clear hcz64_6
          try clear hcz64_7
          try clear hcz64_8
          try clear hcz64_9
          try clear hfz11_0
          try clear hfz11_1
          try clear hfz11_10
          try clear hfz11_11
          try clear hfz11_2
          try clear hfz11_3
          try clear hfz11_4
          try clear hfz11_5
          try clear hfz11_6
          try clear hfz11_7
          try clear hfz11_8
          try clear hfz11_9
          try clear hfz40_0
          try clear hfz40_1
          try clear hfz40_10
          try clear hfz40_11
          try clear hfz40_2
          try clear hfz40_3
          try clear hfz40_4
          try clear hfz40_5
          try clear hfz40_6
          try clear hfz40_7
          try clear hfz40_8
          try clear hfz40_9
          try clear hfz49_0
          try clear hfz49_1
          try clear hfz49_10
          try clear hfz49_11
          try clear hfz49_2
          try clear hfz49_3
          try clear hfz49_4
          try clear hfz49_5
          try clear hfz49_6
          try clear hfz49_7
          try clear hfz49_8
          try clear hfz49_9
          try clear hfz64_0
          try clear hfz64_1
          try clear hfz64_10
          try clear hfz64_11
          try clear hfz64_2
          try clear hfz64_3
          try clear hfz64_4
          try clear hfz64_5
          try clear hfz64_6
          try clear hfz64_7
          try clear hfz64_8
          try clear hfz64_9
          try clear p2
          obtain ⟨kq, x6_47, HA, HJ47, HO_6, HO_260007, HO_260009, HO_260010, BK259, HB⟩ := hcut
          cases kq with
          | zero => exact absurd HA.out (by simp [place_Of.j1])
          | succ kj47 =>
            have H := HA.out
            clear HA
            simp only [place_Of.j1] at H
            obtain ⟨y314, hy314⟩ : ∃ y_ : List Int, y_ = (([(t254.length : Int)] : List Int)) := ⟨_, rfl⟩
            replace H : ((place_lay.f kj47 x6_47 10 y314).bind fun t317 => (if t240 = true then ((place_lay.f kj47 t317 11 (([wrap64 (t257 - 1)] : List Int))).bind fun t323 => ((place_lay.f kj47 t323 12 (([1] : List Int))).bind fun t329 => (some (t329, 0)))) else (some (t317, 0)))) = some (r1, r2) := by first | (rw [hy314]; with_reducible exact H) | (have H2_ := (Option.bind_some _ _).symm.trans H; rw [hy314]; with_reducible exact H2_) | (have H2_ := (Option.bind_some _ _).symm.trans H; with_reducible exact H2_) | with_reducible exact H | (rw [hy314]; exact H) | exact H
            have Ny314 := Aside0.mk hy314
            clear hy314
            replace H := Option.bind_eq_some_iff.mp H
            obtain ⟨t317, A700, H⟩ := H
            replace H : (if t240 = true then ((place_lay.f kj47 t317 11 (([wrap64 (t257 - 1)] : List Int))).bind fun t323 => ((place_lay.f kj47 t323 12 (([1] : List Int))).bind fun t329 => (some (t329, 0)))) else (some (t317, 0))) = some (r1, r2) := H
            have A70 := Aside0.mk A700
            clear A700
            by_cases c71 : t240 = true
            · subst c71
              have H1 : ((place_lay.f kj47 t317 11 (([wrap64 (t257 - 1)] : List Int))).bind fun t323 => ((place_lay.f kj47 t323 12 (([1] : List Int))).bind fun t329 => (some (t329, 0)))) = some (r1, r2) := by rw [if_pos rfl] at H; exact H
              clear H
              have H := H1
              clear H1
              obtain ⟨y320, hy320⟩ : ∃ y_ : List Int, y_ = (([wrap64 (t257 - 1)] : List Int)) := ⟨_, rfl⟩
              replace H : ((place_lay.f kj47 t317 11 y320).bind fun t323 => ((place_lay.f kj47 t323 12 (([1] : List Int))).bind fun t329 => (some (t329, 0)))) = some (r1, r2) := by first | (rw [hy320]; with_reducible exact H) | (have H2_ := (Option.bind_some _ _).symm.trans H; rw [hy320]; with_reducible exact H2_) | (have H2_ := (Option.bind_some _ _).symm.trans H; with_reducible exact H2_) | with_reducible exact H | (rw [hy320]; exact H) | exact H
              have Ny320 := Aside0.mk hy320
              clear hy320
              replace H := Option.bind_eq_some_iff.mp H
              obtain ⟨t323, A720, H⟩ := H
              replace H : ((place_lay.f kj47 t323 12 (([1] : List Int))).bind fun t329 => (some (t329, 0))) = some (r1, r2) := H
              have A72 := Aside0.mk A720
              clear A720
              obtain ⟨y326, hy326⟩ : ∃ y_ : List Int, y_ = (([1] : List Int)) := ⟨_, rfl⟩
              replace H : ((place_lay.f kj47 t323 12 y326).bind fun t329 => (some (t329, 0))) = some (r1, r2) := by first | (rw [hy326]; with_reducible exact H) | (have H2_ := (Option.bind_some _ _).symm.trans H; rw [hy326]; with_reducible exact H2_) | (have H2_ := (Option.bind_some _ _).symm.trans H; with_reducible exact H2_) | with_reducible exact H | (rw [hy326]; exact H) | exact H
              have Ny326 := Aside0.mk hy326
              clear hy326
              replace H := Option.bind_eq_some_iff.mp H
              obtain ⟨t329, A730, H⟩ := H
              replace H : (some (t329, 0)) = some (r1, r2) := H
              have A73 := Aside0.mk A730
              clear A730
              simp only [Option.some.injEq, Prod.mk.injEq] at H
              obtain ⟨rfl, rfl⟩ := H
              obtain ⟨hcz74_0, hcz74_1, hcz74_2, hcz74_3, hcz74_4, hcz74_5, hcz74_6, hcz74_7, hcz74_8, hcz74_9, hcz74_10, hcz74_11, hfz74_0, hfz74_1, hfz74_2, hfz74_3, hfz74_4, hfz74_5, hfz74_6, hfz74_7, hfz74_8, hfz74_9, hfz74_10, hfz74_11⟩ := bc12 BK259.out
              go_wp2_with (first | ((with_reducible refine gate_dst (N := 59) rfl ?_); refine Kd.R_lit (Kd.int .i64) _ 3 ?hg (N := 59) ?hd (xs := ([(t254.length : Int)] : List Int)) (inner := [.int .i64 (t254.length : Int)]) (ok := fun _ => True) (okp := fun _ => True) ?hr ?hp (fun _ hk => hk) trivial (Below.refl _ _) (Nat.le_refl _) (by simp) ?_; (case hd => rfl); (case hg => rfl); (case hr => first | (go_simp; done) | (go_simp; rfl)); (case hp => exact (Reps.one (show Kd.M (Kd.int .i64) _ _ _ (t254.length : Int) [.int .i64 (t254.length : Int)] from rfl) (Reps.none _ _))); intro v315 w75 ho76 hb hg_ hnew_; clear hg_ hnew_; (first | rw [← Ny314.out] at ho76 | (simp only [Int.reduceToNat] at ho76; rw [← Ny314.out] at ho76)); replace HO_6 := rbE HO_6 hb; replace HO_260007 := rbE HO_260007 hb; replace HO_260009 := rbE HO_260009 hb; replace HO_260010 := rbE HO_260010 hb; have HO316 := Aside0.mk (Kd.R_lower ho76 (below_size (pB HB))); replace BK259 := bbE BK259 hb; replace HB := bstE HB hb; clear hb ho76; obtain ⟨Ao77, co77, eo77⟩ := Kd.R_slice HO_6.out; subst eo77; obtain ⟨Ao78, co78, eo78⟩ := Kd.R_slice HO316.out; subst eo78) | ((with_reducible refine gate_callee (f := 30) rfl ?_); refine goesL_ (some 60) rfl rfl Try.func30 (by kernel_rfl) rfl #[.slice Ao77 x6_47.length co77, .int .i64 10, .slice Ao78 y314.length co78] rfl (by (try simp only [List.map_toArray, List.map_cons, List.map_nil]); first | done | rfl | (simp only [List.length_drop, List.length_take]; rfl)) ?_; (with_reducible refine (place_lay.calls kj47 (fun k_ => some k_ = (.slice Ao77 x6_47.length co77 : Value).ownBlock) (.slice Ao77 x6_47.length co77) x6_47 10 _ _ y314 t317 w _ ?side1 ?side2 ?side3 ?side4 A70.out).mono ?_); (case side1 => repeat (first | (with_reducible first | exact HB.out | apply below_alloc | apply pw_below_drewN | apply below_drew1 | refine below_set ?_ GE259.out) | exact HB.out)); (case side2 => exact Kd.R_tight rfl HO_6.out); (case side3 => exact Kd.C_kept_own ((Kd.R_apart' HO316.out (Kd.R_typed HO_6.out) (by decide))) (fun k_ hk_ hs_ => (hk_.2) hs_)); (case side4 => exact (Kd.R_reads' HO316.out).2.1); rintro e w79 ⟨v318, rfl, ho0, hb, hkp⟩; refine ⟨_, rfl, ?_⟩; replace HO_260007 := Aside0.mk (Kd.R_mono (ok' := fun k_ => True) (Kd.R_keptB ((Kd.R_apart' HO_260007.out (Kd.R_typed HO_6.out) (by decide))) hkp (fun k_ hk_ hs_ => (hk_.2) hs_)) (fun k_ hk_ => trivial)); replace HO_260009 := Aside0.mk (Kd.R_mono (ok' := fun k_ => some k_ ≠ (.slice Ao14 t254.length co14 : Value).ownBlock) (Kd.R_keptB ((Kd.R_apart' HO_260009.out (Kd.R_typed HO_6.out) (by decide))) hkp (fun k_ hk_ hs_ => (hk_.2) hs_)) (fun k_ hk_ => hk_.1.1)); replace HO_260010 := Aside0.mk (Kd.R_mono (ok' := fun k_ => some k_ ≠ (.slice Ao13 t251.length co13 : Value).ownBlock) (Kd.R_keptB ((Kd.R_apart' HO_260010.out (Kd.R_typed HO_6.out) (by decide))) hkp (fun k_ hk_ hs_ => (hk_.2) hs_)) (fun k_ hk_ => hk_.1.1)); replace BK259 := Aside0.mk (blk_kept (pk BK259) hkp (fun hs_ => (fun e_ => (Kd.R_ne HO_6.out BK259.out (by decide)) e_) hs_)); replace HO316 := Aside0.mk (Kd.R_mono (ok' := fun k_ => True) (Kd.R_keptB ((Kd.R_apart' HO316.out (Kd.R_typed HO_6.out) (by decide))) hkp (fun k_ hk_ hs_ => (hk_.2) hs_)) (fun k_ hk_ => trivial)); have HO319 := Aside0.mk (Kd.R_mono (ok' := fun k_ => True) ho0 (fun k_ hk_ => trivial)); replace HB := Aside0.mk (hb); clear HO_6; (try clear hb); (try clear hkp); (try clear ho0); obtain ⟨hcz80_0, hcz80_1, hcz80_2, hcz80_3, hcz80_4, hcz80_5, hcz80_6, hcz80_7, hcz80_8, hcz80_9, hcz80_10, hcz80_11, hfz80_0, hfz80_1, hfz80_2, hfz80_3, hfz80_4, hfz80_5, hfz80_6, hfz80_7, hfz80_8, hfz80_9, hfz80_10, hfz80_11⟩ := bc12 BK259.out) | ((with_reducible refine gate_dst (N := 68) rfl ?_); refine Kd.R_lit (Kd.int .i64) _ 3 ?hg (N := 68) ?hd (xs := ([wrap64 (t257 - 1)] : List Int)) (inner := [.int .i64 (wrap64 (t257 - 1))]) (ok := fun _ => True) (okp := fun _ => True) ?hr ?hp (fun _ hk => hk) trivial (Below.refl _ _) (Nat.le_refl _) (by simp) ?_; (case hd => rfl); (case hg => rfl); (case hr => first | (go_simp; done) | (go_simp; rfl)); (case hp => exact (Reps.one (show Kd.M (Kd.int .i64) _ _ _ (wrap64 (t257 - 1)) [.int .i64 (wrap64 (t257 - 1))] from rfl) (Reps.none _ _))); intro v321 w81 ho82 hb hg_ hnew_; clear hg_ hnew_; (first | rw [← Ny320.out] at ho82 | (simp only [Int.reduceToNat] at ho82; rw [← Ny320.out] at ho82)); replace HO_260007 := rbE HO_260007 hb; replace HO_260009 := rbE HO_260009 hb; replace HO_260010 := rbE HO_260010 hb; have n3_ := Aside0.mk (Kd.R_elder' (pR HO316) (Kd.R_base ho82) hb); replace HO319 := rbE HO319 hb; have HO322 := Aside0.mk (Kd.R_lower (Kd.R_new' ho82 (Kd.R_lt (pR HO316))) (below_size (pB HB))); replace BK259 := bbE BK259 hb; replace HB := bstE HB hb; clear HO316; have HO316 := n3_; clear n3_; clear hb ho82; obtain ⟨Ao83, co83, eo83⟩ := Kd.R_slice HO319.out; subst eo83; obtain ⟨Ao84, co84, eo84⟩ := Kd.R_slice HO322.out; subst eo84) | ((with_reducible refine gate_callee (f := 30) rfl ?_); refine goesL_ (some 69) rfl rfl Try.func30 (by kernel_rfl) rfl #[.slice Ao83 t317.length co83, .int .i64 11, .slice Ao84 y320.length co84] rfl (by (try simp only [List.map_toArray, List.map_cons, List.map_nil]); first | done | rfl | (simp only [List.length_drop, List.length_take]; rfl)) ?_; (with_reducible refine (place_lay.calls kj47 (fun k_ => some k_ = (.slice Ao83 t317.length co83 : Value).ownBlock) (.slice Ao83 t317.length co83) t317 11 _ _ y320 t323 w _ ?side1 ?side2 ?side3 ?side4 A72.out).mono ?_); (case side1 => repeat (first | (with_reducible first | exact HB.out | apply below_alloc | apply pw_below_drewN | apply below_drew1 | refine below_set ?_ GE259.out) | exact HB.out)); (case side2 => exact Kd.R_tight rfl HO319.out); (case side3 => exact Kd.C_kept_own ((Kd.R_apart' HO322.out (Kd.R_typed HO319.out) (by decide))) (fun k_ hk_ hs_ => (hk_.2) hs_)); (case side4 => exact (Kd.R_reads' HO322.out).2.1); rintro e w85 ⟨v324, rfl, ho0, hb, hkp⟩; refine ⟨_, rfl, ?_⟩; replace HO_260007 := Aside0.mk (Kd.R_mono (ok' := fun k_ => True) (Kd.R_keptB ((Kd.R_apart' HO_260007.out (Kd.R_typed HO319.out) (by decide))) hkp (fun k_ hk_ hs_ => (hk_.2) hs_)) (fun k_ hk_ => trivial)); replace HO_260009 := Aside0.mk (Kd.R_mono (ok' := fun k_ => some k_ ≠ (.slice Ao14 t254.length co14 : Value).ownBlock) (Kd.R_keptB ((Kd.R_apart' HO_260009.out (Kd.R_typed HO319.out) (by decide))) hkp (fun k_ hk_ hs_ => (hk_.2) hs_)) (fun k_ hk_ => hk_.1.1)); replace HO_260010 := Aside0.mk (Kd.R_mono (ok' := fun k_ => some k_ ≠ (.slice Ao13 t251.length co13 : Value).ownBlock) (Kd.R_keptB ((Kd.R_apart' HO_260010.out (Kd.R_typed HO319.out) (by decide))) hkp (fun k_ hk_ hs_ => (hk_.2) hs_)) (fun k_ hk_ => hk_.1.1)); replace BK259 := Aside0.mk (blk_kept (pk BK259) hkp (fun hs_ => (fun e_ => (Kd.R_ne HO319.out BK259.out (by decide)) e_) hs_)); replace HO316 := Aside0.mk (Kd.R_mono (ok' := fun k_ => some k_ ≠ (.slice Ao84 y320.length co84 : Value).ownBlock) (Kd.R_keptB ((Kd.R_apart' HO316.out (Kd.R_typed HO319.out) (by decide))) hkp (fun k_ hk_ hs_ => (hk_.2) hs_)) (fun k_ hk_ => hk_.1.1.2)); replace HO322 := Aside0.mk (Kd.R_mono (ok' := fun k_ => some k_ ≠ (.slice Ao78 y314.length co78 : Value).ownBlock) (Kd.R_keptB ((Kd.R_apart' HO322.out (Kd.R_typed HO319.out) (by decide))) hkp (fun k_ hk_ hs_ => (hk_.2) hs_)) (fun k_ hk_ => hk_.1.1.2)); have HO325 := Aside0.mk (Kd.R_mono (ok' := fun k_ => True) ho0 (fun k_ hk_ => trivial)); replace HB := Aside0.mk (hb); clear HO319; (try clear hb); (try clear hkp); (try clear ho0)) | ((with_reducible refine gate_dst (N := 71) rfl ?_); refine Kd.R_lit (Kd.int .i64) _ 3 ?hg (N := 71) ?hd (xs := ([1] : List Int)) (inner := [.int .i64 1]) (ok := fun _ => True) (okp := fun _ => True) ?hr ?hp (fun _ hk => hk) trivial (Below.refl _ _) (Nat.le_refl _) (by simp) ?_; (case hd => rfl); (case hg => rfl); (case hr => first | (go_simp; done) | (go_simp; rfl)); (case hp => exact (Reps.one (show Kd.M (Kd.int .i64) _ _ _ 1 [.int .i64 1] from rfl) (Reps.none _ _))); intro v327 w86 ho87 hb hg_ hnew_; clear hg_ hnew_; (first | rw [← Ny326.out] at ho87 | (simp only [Int.reduceToNat] at ho87; rw [← Ny326.out] at ho87)); replace HO_260007 := rbE HO_260007 hb; replace HO_260009 := rbE HO_260009 hb; replace HO_260010 := rbE HO_260010 hb; have n3_ := Aside0.mk (Kd.R_elder' (pR HO316) (Kd.R_base ho87) hb); have n4_ := Aside0.mk (Kd.R_elder' (pR HO322) (Kd.R_base ho87) hb); replace HO325 := rbE HO325 hb; have HO328 := Aside0.mk (Kd.R_lower (Kd.R_new' (Kd.R_new' ho87 (Kd.R_lt (pR HO316))) (Kd.R_lt (pR HO322))) (below_size (pB HB))); replace BK259 := bbE BK259 hb; replace HB := bstE HB hb; clear HO316; clear HO322; have HO316 := n3_; have HO322 := n4_; clear n3_ n4_; clear hb ho87; obtain ⟨Ao88, co88, eo88⟩ := Kd.R_slice HO325.out; subst eo88; obtain ⟨Ao89, co89, eo89⟩ := Kd.R_slice HO328.out; subst eo89) | ((with_reducible refine gate_callee (f := 30) rfl ?_); refine goesL_ (some 72) rfl rfl Try.func30 (by kernel_rfl) rfl #[.slice Ao88 t323.length co88, .int .i64 12, .slice Ao89 y326.length co89] rfl (by (try simp only [List.map_toArray, List.map_cons, List.map_nil]); first | done | rfl | (simp only [List.length_drop, List.length_take]; rfl)) ?_; (with_reducible refine (place_lay.calls kj47 (fun k_ => some k_ = (.slice Ao88 t323.length co88 : Value).ownBlock) (.slice Ao88 t323.length co88) t323 12 _ _ y326 t329 w _ ?side1 ?side2 ?side3 ?side4 A73.out).mono ?_); (case side1 => repeat (first | (with_reducible first | exact HB.out | apply below_alloc | apply pw_below_drewN | apply below_drew1 | refine below_set ?_ GE259.out) | exact HB.out)); (case side2 => exact Kd.R_tight rfl HO325.out); (case side3 => exact Kd.C_kept_own ((Kd.R_apart' HO328.out (Kd.R_typed HO325.out) (by decide))) (fun k_ hk_ hs_ => (hk_.2) hs_)); (case side4 => exact (Kd.R_reads' HO328.out).2.1); rintro e w90 ⟨v330, rfl, ho0, hb, hkp⟩; refine ⟨_, rfl, ?_⟩; replace HO_260007 := Aside0.mk (Kd.R_mono (ok' := fun k_ => True) (Kd.R_keptB ((Kd.R_apart' HO_260007.out (Kd.R_typed HO325.out) (by decide))) hkp (fun k_ hk_ hs_ => (hk_.2) hs_)) (fun k_ hk_ => trivial)); replace HO_260009 := Aside0.mk (Kd.R_mono (ok' := fun k_ => some k_ ≠ (.slice Ao14 t254.length co14 : Value).ownBlock) (Kd.R_keptB ((Kd.R_apart' HO_260009.out (Kd.R_typed HO325.out) (by decide))) hkp (fun k_ hk_ hs_ => (hk_.2) hs_)) (fun k_ hk_ => hk_.1.1)); replace HO_260010 := Aside0.mk (Kd.R_mono (ok' := fun k_ => some k_ ≠ (.slice Ao13 t251.length co13 : Value).ownBlock) (Kd.R_keptB ((Kd.R_apart' HO_260010.out (Kd.R_typed HO325.out) (by decide))) hkp (fun k_ hk_ hs_ => (hk_.2) hs_)) (fun k_ hk_ => hk_.1.1)); replace BK259 := Aside0.mk (blk_kept (pk BK259) hkp (fun hs_ => (fun e_ => (Kd.R_ne HO325.out BK259.out (by decide)) e_) hs_)); replace HO316 := Aside0.mk (Kd.R_mono (ok' := fun k_ => some k_ ≠ (.slice Ao84 y320.length co84 : Value).ownBlock ∧ some k_ ≠ (.slice Ao89 y326.length co89 : Value).ownBlock) (Kd.R_keptB ((Kd.R_apart' HO316.out (Kd.R_typed HO325.out) (by decide))) hkp (fun k_ hk_ hs_ => (hk_.2) hs_)) (fun k_ hk_ => ⟨hk_.1.1.1, hk_.1.1.2⟩)); replace HO322 := Aside0.mk (Kd.R_mono (ok' := fun k_ => some k_ ≠ (.slice Ao78 y314.length co78 : Value).ownBlock ∧ some k_ ≠ (.slice Ao89 y326.length co89 : Value).ownBlock) (Kd.R_keptB ((Kd.R_apart' HO322.out (Kd.R_typed HO325.out) (by decide))) hkp (fun k_ hk_ hs_ => (hk_.2) hs_)) (fun k_ hk_ => ⟨hk_.1.1.1, hk_.1.1.2⟩)); replace HO328 := Aside0.mk (Kd.R_mono (ok' := fun k_ => some k_ ≠ (.slice Ao78 y314.length co78 : Value).ownBlock ∧ some k_ ≠ (.slice Ao84 y320.length co84 : Value).ownBlock) (Kd.R_keptB ((Kd.R_apart' HO328.out (Kd.R_typed HO325.out) (by decide))) hkp (fun k_ hk_ hs_ => (hk_.2) hs_)) (fun k_ hk_ => ⟨hk_.1.1.1.2, hk_.1.1.2⟩)); have HO331 := Aside0.mk (Kd.R_mono (ok' := fun k_ => True) ho0 (fun k_ hk_ => trivial)); replace HB := Aside0.mk (hb); clear HO325; (try clear hb); (try clear hkp); (try clear ho0)))
              go_ret2
              exact ⟨_, by first | rfl | (simp [errW_none, errW_some] <;> rfl) | (simp [*, errW_none, errW_some] <;> rfl), by (with_reducible repeat (first | apply Kd.R_alloc | apply Kd.R_drewN | apply Kd.R_drew)); exact HO331.out, by repeat (first | (with_reducible first | exact HB.out | apply below_alloc | apply pw_below_drewN | apply below_drew1 | refine below_set ?_ GE259.out) | exact HB.out)⟩
            replace c71 := Bool.eq_false_iff.mpr c71
            subst c71
            have H1 : (some (t317, 0)) = some (r1, r2) := by rw [if_neg (show ¬ (false = true) by decide)] at H; exact H
            clear H
            have H := H1
            clear H1
            simp only [Option.some.injEq, Prod.mk.injEq] at H
            obtain ⟨rfl, rfl⟩ := H
            obtain ⟨hcz91_0, hcz91_1, hcz91_2, hcz91_3, hcz91_4, hcz91_5, hcz91_6, hcz91_7, hcz91_8, hcz91_9, hcz91_10, hcz91_11, hfz91_0, hfz91_1, hfz91_2, hfz91_3, hfz91_4, hfz91_5, hfz91_6, hfz91_7, hfz91_8, hfz91_9, hfz91_10, hfz91_11⟩ := bc12 BK259.out
            go_wp2_with (first | ((with_reducible refine gate_dst (N := 59) rfl ?_); refine Kd.R_lit (Kd.int .i64) _ 3 ?hg (N := 59) ?hd (xs := ([(t254.length : Int)] : List Int)) (inner := [.int .i64 (t254.length : Int)]) (ok := fun _ => True) (okp := fun _ => True) ?hr ?hp (fun _ hk => hk) trivial (Below.refl _ _) (Nat.le_refl _) (by simp) ?_; (case hd => rfl); (case hg => rfl); (case hr => first | (go_simp; done) | (go_simp; rfl)); (case hp => exact (Reps.one (show Kd.M (Kd.int .i64) _ _ _ (t254.length : Int) [.int .i64 (t254.length : Int)] from rfl) (Reps.none _ _))); intro v315 w92 ho93 hb hg_ hnew_; clear hg_ hnew_; (first | rw [← Ny314.out] at ho93 | (simp only [Int.reduceToNat] at ho93; rw [← Ny314.out] at ho93)); replace HO_6 := rbE HO_6 hb; replace HO_260007 := rbE HO_260007 hb; replace HO_260009 := rbE HO_260009 hb; replace HO_260010 := rbE HO_260010 hb; have HO316 := Aside0.mk (Kd.R_lower ho93 (below_size (pB HB))); replace BK259 := bbE BK259 hb; replace HB := bstE HB hb; clear hb ho93; obtain ⟨Ao94, co94, eo94⟩ := Kd.R_slice HO_6.out; subst eo94; obtain ⟨Ao95, co95, eo95⟩ := Kd.R_slice HO316.out; subst eo95) | ((with_reducible refine gate_callee (f := 30) rfl ?_); refine goesL_ (some 60) rfl rfl Try.func30 (by kernel_rfl) rfl #[.slice Ao94 x6_47.length co94, .int .i64 10, .slice Ao95 y314.length co95] rfl (by (try simp only [List.map_toArray, List.map_cons, List.map_nil]); first | done | rfl | (simp only [List.length_drop, List.length_take]; rfl)) ?_; (with_reducible refine (place_lay.calls kj47 (fun k_ => some k_ = (.slice Ao94 x6_47.length co94 : Value).ownBlock) (.slice Ao94 x6_47.length co94) x6_47 10 _ _ y314 t317 w _ ?side1 ?side2 ?side3 ?side4 A70.out).mono ?_); (case side1 => repeat (first | (with_reducible first | exact HB.out | apply below_alloc | apply pw_below_drewN | apply below_drew1 | refine below_set ?_ GE259.out) | exact HB.out)); (case side2 => exact Kd.R_tight rfl HO_6.out); (case side3 => exact Kd.C_kept_own ((Kd.R_apart' HO316.out (Kd.R_typed HO_6.out) (by decide))) (fun k_ hk_ hs_ => (hk_.2) hs_)); (case side4 => exact (Kd.R_reads' HO316.out).2.1); rintro e w96 ⟨v318, rfl, ho0, hb, hkp⟩; refine ⟨_, rfl, ?_⟩; replace HO_260007 := Aside0.mk (Kd.R_mono (ok' := fun k_ => True) (Kd.R_keptB ((Kd.R_apart' HO_260007.out (Kd.R_typed HO_6.out) (by decide))) hkp (fun k_ hk_ hs_ => (hk_.2) hs_)) (fun k_ hk_ => trivial)); replace HO_260009 := Aside0.mk (Kd.R_mono (ok' := fun k_ => some k_ ≠ (.slice Ao14 t254.length co14 : Value).ownBlock) (Kd.R_keptB ((Kd.R_apart' HO_260009.out (Kd.R_typed HO_6.out) (by decide))) hkp (fun k_ hk_ hs_ => (hk_.2) hs_)) (fun k_ hk_ => hk_.1.1)); replace HO_260010 := Aside0.mk (Kd.R_mono (ok' := fun k_ => some k_ ≠ (.slice Ao13 t251.length co13 : Value).ownBlock) (Kd.R_keptB ((Kd.R_apart' HO_260010.out (Kd.R_typed HO_6.out) (by decide))) hkp (fun k_ hk_ hs_ => (hk_.2) hs_)) (fun k_ hk_ => hk_.1.1)); replace BK259 := Aside0.mk (blk_kept (pk BK259) hkp (fun hs_ => (fun e_ => (Kd.R_ne HO_6.out BK259.out (by decide)) e_) hs_)); replace HO316 := Aside0.mk (Kd.R_mono (ok' := fun k_ => True) (Kd.R_keptB ((Kd.R_apart' HO316.out (Kd.R_typed HO_6.out) (by decide))) hkp (fun k_ hk_ hs_ => (hk_.2) hs_)) (fun k_ hk_ => trivial)); have HO319 := Aside0.mk (Kd.R_mono (ok' := fun k_ => True) ho0 (fun k_ hk_ => trivial)); replace HB := Aside0.mk (hb); clear HO_6; (try clear hb); (try clear hkp); (try clear ho0); obtain ⟨hcz97_0, hcz97_1, hcz97_2, hcz97_3, hcz97_4, hcz97_5, hcz97_6, hcz97_7, hcz97_8, hcz97_9, hcz97_10, hcz97_11, hfz97_0, hfz97_1, hfz97_2, hfz97_3, hfz97_4, hfz97_5, hfz97_6, hfz97_7, hfz97_8, hfz97_9, hfz97_10, hfz97_11⟩ := bc12 BK259.out))
            go_ret2
            exact ⟨_, by first | rfl | (simp [errW_none, errW_some] <;> rfl) | (simp [*, errW_none, errW_some] <;> rfl), by (with_reducible repeat (first | apply Kd.R_alloc | apply Kd.R_drewN | apply Kd.R_drew)); exact HO319.out, by repeat (first | (with_reducible first | exact HB.out | apply below_alloc | apply pw_below_drewN | apply below_drew1 | refine below_set ?_ GE259.out) | exact HB.out)⟩
  rw [if_neg c3] at H
  have c3b0 : (t258 == 0) = false := beq_eq_false_iff_ne.mpr c3
  have c3b1 : (t258 != 0) = true := bne_iff_ne.mpr c3
  simp only [Option.some.injEq, Prod.mk.injEq] at H
  obtain ⟨rfl, rfl⟩ := H
  go_enter Try.func10, Try.ntmps10
  go_wp2_with (first | ((with_reducible refine gate_callee (f := 17) rfl ?_); refine goesL_ (some 9) rfl rfl Try.func17 (by kernel_rfl) rfl #[.slice A0 l0.length c0] rfl (by (try simp only [List.map_toArray, List.map_cons, List.map_nil]); first | done | rfl | (simp only [List.length_drop, List.length_take]; rfl)) ?_; (with_reducible refine (packet_Read.calls k _ _ l0 t240 t241 t242 t243 t244 t245 t246 t247 t250 t251 t254 t257 t258 _ ?side1 ?side2 A2.out).mono ?_); (case side1 => repeat (first | exact HR0.out | (with_reducible refine Kd.C_alloc ?_ _) | (with_reducible refine Kd.C_drewN ?_ _) | (with_reducible refine Kd.C_drew ?_))); (case side2 => exact HC0.out); rintro e w98 ⟨v248, v252, v255, rfl, ho0, ho1, ho2, hb⟩; refine ⟨_, rfl, ?_⟩; have HO249 := Aside0.mk (Kd.R_lower ho0 (below_size (pB HB))); have HO253 := Aside0.mk (Kd.R_lower ho1 (below_size (pB HB))); have HO256 := Aside0.mk (Kd.R_lower ho2 (below_size (pB HB))); replace HB := bstE HB hb; (try clear hb); (try clear hb2); (try clear hk); (try clear hi); (try clear ho0); (try clear ho1); (try clear ho2)) | ((with_reducible refine gate_dst (N := 4) rfl ?_); refine box_event ?hg (N := 4) ?hd (cs := #[.bool false, .bool false, .bool false, .int .i64 0, .int .u16 0, .int .u32 0, .int .u32 0, .slice none 0 0, .int .u16 0, .slice none 0 0, .slice none 0 0, .int .i64 0]) (t := 45) ?hr ?_; (case hd => rfl); (case hg => rfl); (case hr => first | (go_simp; done) | (go_simp; rfl)); intro gb259 hg w99 hbox hb; replace HO249 := rbE HO249 hb; replace HO253 := rbE HO253 hb; replace HO256 := rbE HO256 hb; have n3_ := bstE HB hb; have BK259 := Aside0.mk (hbox); have GW259 := geE hg HB; have GE259 := geE hg HB; clear HB; have HB := n3_; clear n3_; clear hb hbox hg; obtain ⟨hcz100_0, hcz100_1, hcz100_2, hcz100_3, hcz100_4, hcz100_5, hcz100_6, hcz100_7, hcz100_8, hcz100_9, hcz100_10, hcz100_11, hfz100_0, hfz100_1, hfz100_2, hfz100_3, hfz100_4, hfz100_5, hfz100_6, hfz100_7, hfz100_8, hfz100_9, hfz100_10, hfz100_11⟩ := bc12 BK259.out; obtain ⟨Ao101, co101, eo101⟩ := Kd.R_slice HO249.out; subst eo101; obtain ⟨Ao102, co102, eo102⟩ := Kd.R_slice HO253.out; subst eo102; obtain ⟨Ao103, co103, eo103⟩ := Kd.R_slice HO256.out; subst eo103) | ((with_reducible refine gate_store (t := 45) (p := 4) rfl ?_); refine store_event (t := 45) (p := 4) (v := ?vo_w104) (w1 := ((((((((((((w99.setCell ⟨gb259, 0, none⟩ (.bool t240)).setCell ⟨gb259, 1, none⟩ (.bool t241)).setCell ⟨gb259, 2, none⟩ (.bool t242)).setCell ⟨gb259, 3, none⟩ (.int .i64 t243)).setCell ⟨gb259, 4, none⟩ (.int .u16 t244)).setCell ⟨gb259, 5, none⟩ (.int .u32 t245)).setCell ⟨gb259, 6, none⟩ (.int .u32 t246)).setCell ⟨gb259, 7, none⟩ (.slice Ao101 t247.length co101)).setCell ⟨gb259, 8, none⟩ (.int .u16 t250)).setCell ⟨gb259, 9, none⟩ (.slice Ao102 t251.length co102)).setCell ⟨gb259, 10, none⟩ (.slice Ao103 t254.length co103)).setCell ⟨gb259, 11, none⟩ (.int .i64 t257))) ?hg ?ho ?hn ?hr ?_; (case ho => rfl); (case hg => rfl); (case hn => rfl); (case hr => first | (go_simp; done) | (go_simp; rfl)); intro w104 hw; replace HO249 := rfE hw HO249 BK259; replace HO253 := rfE hw HO253 BK259; replace HO256 := rfE hw HO256 BK259; replace BK259 : Aside0 (w104.heap[gb259]? = some (.cells #[.bool t240, .bool t241, .bool t242, .int .i64 t243, .int .u16 t244, .int .u32 t245, .int .u32 t246, .slice Ao101 t247.length co101, .int .u16 t250, .slice Ao102 t251.length co102, .slice Ao103 t254.length co103, .int .i64 t257] 45 (0, 0))) := ⟨by rw [hw]; apply puts12; exact BK259.out⟩; replace HB := bsE hw HB GE259; clear hw))
  go_ret2
  exact ⟨_, by first | rfl | (simp [errW_none, errW_some] <;> rfl) | (simp [*, errW_none, errW_some] <;> rfl), by first | exact Kd.R_nil _ _ _ _ _ | exact Kd.N_nil _ _ _ _ _ | exact Kd.V_nil _ _ _ _ _ | exact Kd.Q_nil _ _ _ _ _ | exact Kd.S_nil _ _ _ _ _, by repeat (first | (with_reducible first | exact HB.out | apply below_alloc | apply pw_below_drewN | apply below_drew1 | refine below_set ?_ GE259.out) | exact HB.out)⟩
end Go.Proofs.Ytcbdgknfkoodoaa.F
namespace Go.Proofs.Ytcbdgknfkoodoaa.F
open Go.RowKit Go.Proofs.YtcbdgknfkoodoaaW.PrintWords Go.Proofs.YtcbdgknfkoodoaaW.PrintLast Go.Proofs.YtcbdgknfkoodoaaW.PrintMore
attribute [local go_sem] max2_int min2_int max_two min_two max_three min_three max_four min_four   
set_option linter.unusedVariables false
set_option linter.unusedSimpArgs false
def place_Find.l0 : Nat → Int → Int → List (S32) → Int → Int → Option (Int × Int × Int × Int)
  | 0, _, _, _, _, _ => none
  | k + 1, x1, x2, x13, x14, x15 => if x15 < x14 then (if 0 ≤ x15 then (if x15 < (x13.length : Int) then (if ((rd_T32 x13 x15).f0) = x1 then (if x2 = 0 then (some ((rd_T32 x13 x15).f0, (rd_T32 x13 x15).f1, (rd_T32 x13 x15).f2, 0)) else (place_Find.l0 k x1 (wrap64 (x2 - 1)) x13 x14 (wrap64 (x15 + 1)))) else (place_Find.l0 k x1 x2 x13 x14 (wrap64 (x15 + 1)))) else (none)) else (none)) else (some (0, 0, 0, 8))
def place_Find.f (k : Nat) (l0 : List (S32)) (a1 : Int) (a2 : Int) : Option (Int × Int × Int × Int) := if a2 < 0 then (some (0, 0, 0, 8)) else (place_Find.l0 k a1 a2 l0 (l0.length : Int) 0)
theorem place_Find.mono_l : ∀ k, (∀ y0 y1 y2 y3 y4, LeO (place_Find.l0 k y0 y1 y2 y3 y4) (place_Find.l0 (k + 1) y0 y1 y2 y3 y4))
  | 0 => fun _ _ _ _ _ r h => by simp [place_Find.l0] at h
  | k + 1 => by
    have ih0 := place_Find.mono_l k
    intro y0 y1 y2 y3 y4
    unfold place_Find.l0
    repeat' first
    | (with_reducible exact ih0 _ _ _ _ _)
    | (with_reducible exact LeO.refl _)
    | (with_reducible exact LeO.none _)
    | (with_reducible refine LeO.ite ?_ ?_)
    | (with_reducible refine LeO.bind ?_ (fun _ => ?_))
    | exact ih0 _ _ _ _ _
    | exact LeO.none _
    | refine LeO.ite ?_ ?_
    | refine LeO.bind ?_ (fun _ => ?_)
theorem place_Find.mono : ∀ a0 a1 a2 k, LeO (place_Find.f k a0 a1 a2) (place_Find.f (k + 1) a0 a1 a2) := by
  intro a0 a1 a2 k
  have ih0 := place_Find.mono_l k
  unfold place_Find.f
  repeat' first
      | (with_reducible exact ih0 _ _ _ _ _)
      | (with_reducible exact LeO.refl _)
      | (with_reducible exact LeO.none _)
      | (with_reducible refine LeO.ite ?_ ?_)
      | (with_reducible refine LeO.bind ?_ (fun _ => ?_))
      | exact ih0 _ _ _ _ _
      | exact LeO.none _
      | refine LeO.ite ?_ ?_
      | refine LeO.bind ?_ (fun _ => ?_)
set_option maxHeartbeats 8000000 in
set_option maxRecDepth 100000 in
theorem place_Find.calls (k : Nat) (A0 : Option Addr) (c0 : Nat) (l0 : List (S32)) (a1 : Int) (a2 : Int) (r1 : Int) (r2 : Int) (r3 : Int) (r4 : Int) (w : World) (hr0 : Kd.C k32 w A0 l0.length l0) (hc0 : l0.length ≤ c0) (h : place_Find.f k l0 a1 a2 = some (r1, r2, r3, r4)) :
    Calls Try.prog 13 #[.slice A0 l0.length c0, .int .i64 a1, .int .i64 a2] w fun e w' => e = .returned (.tuple #[.agg #[.int .i64 r1, .int .i64 r2, .int .i64 r3], .int .i64 r4]) ∧ Below w.heap.size w w' := by
  have hu32 := Try.underlying32
  have HR0 := Aside0.mk hr0
  have HC0 := Aside0.mk hc0
  clear hr0 hc0
  have HB := Aside0.mk (Below.refl w.heap.size w)
  have H : (if a2 < 0 then (some (0, 0, 0, 8)) else (place_Find.l0 k a1 a2 l0 (l0.length : Int) 0)) = some (r1, r2, r3, r4) := h
  clear h
  by_cases c4 : a2 < 0
  · rw [if_pos c4] at H
    have c4b0 : decide (a2 < 0) = true := decide_eq_true c4
    clear c4
    simp only [Option.some.injEq, Prod.mk.injEq] at H
    obtain ⟨rfl, rfl, rfl, rfl⟩ := H
    go_enter Try.func13, Try.ntmps13
    go_wp2_with (first | ((with_reducible refine gate_dst (N := 6) rfl ?_); refine box_event ?hg (N := 6) ?hd (cs := #[.int .i64 0, .int .i64 0, .int .i64 0]) (t := 32) ?hr ?_; (case hd => rfl); (case hg => rfl); (case hr => first | (go_simp; done) | (go_simp; rfl)); intro gb332 hg w5 hbox hb; have n0_ := bstE HB hb; have BK332 := Aside0.mk (hbox); have GW332 := geE hg HB; have GE332 := geE hg HB; clear HB; have HB := n0_; clear n0_; clear hb hbox hg; obtain ⟨hcz6_0, hcz6_1, hcz6_2, hfz6_0, hfz6_1, hfz6_2⟩ := bc3 BK332.out) | ((with_reducible refine gate_store (t := 32) (p := 6) rfl ?_); refine store_event (t := 32) (p := 6) (v := ?vo_w7) (w1 := (((w5.setCell ⟨gb332, 0, none⟩ (.int .i64 0)).setCell ⟨gb332, 1, none⟩ (.int .i64 0)).setCell ⟨gb332, 2, none⟩ (.int .i64 0))) ?hg ?ho ?hn ?hr ?_; (case ho => rfl); (case hg => rfl); (case hn => rfl); (case hr => first | (go_simp; done) | (go_simp; rfl)); intro w7 hw; replace BK332 : Aside0 (w7.heap[gb332]? = some (.cells #[.int .i64 0, .int .i64 0, .int .i64 0] 32 (0, 0))) := ⟨by rw [hw]; apply puts3; exact BK332.out⟩; replace HB := bsE hw HB GE332; clear hw))
    refine bodyPost_ret (results_ct rfl _ _ gb332 32 #[.int .i64 0, .int .i64 0, .int .i64 0] (0, 0) _ rfl (pk BK332) Try.underlying32 rfl (by kernel_rfl)) rfl ?_
    exact ⟨by first | rfl | (simp [errW_none, errW_some] <;> rfl) | (simp [*, errW_none, errW_some] <;> rfl), by repeat (first | (with_reducible first | exact HB.out | apply below_alloc | apply pw_below_drewN | apply below_drew1 | refine below_set ?_ GE332.out) | exact HB.out)⟩
  rw [if_neg c4] at H
  have c4b0 : decide (a2 < 0) = false := decide_eq_false c4
  clear c4
  have H' := Aside0.mk H
  clear H
  go_enter Try.func13, Try.ntmps13
  go_wp2_with (first | ((with_reducible refine gate_dst (N := 6) rfl ?_); refine box_event ?hg (N := 6) ?hd (cs := #[.int .i64 0, .int .i64 0, .int .i64 0]) (t := 32) ?hr ?_; (case hd => rfl); (case hg => rfl); (case hr => first | (go_simp; done) | (go_simp; rfl)); intro gb332 hg w8 hbox hb; have n0_ := bstE HB hb; have BK332 := Aside0.mk (hbox); have GW332 := geE hg HB; have GE332 := geE hg HB; clear HB; have HB := n0_; clear n0_; clear hb hbox hg))
  go_loopg [2, 15] k (fun kq v2 v15 w' => ∃ (x2_1 : Int) (x15_1 : Int) (x333000_1 : Int) (x333001_1 : Int) (x333002_1 : Int), v2 = .int .i64 x2_1 ∧ v15 = .int .i64 x15_1 ∧ Aside0 (place_Find.l0 kq a1 x2_1 l0 (l0.length : Int) x15_1 = some (r1, r2, r3, r4)) ∧ Aside0 (kq ≤ k) ∧ Aside0 (w'.heap[gb332]? = some (.cells #[.int .i64 x333000_1, .int .i64 x333001_1, .int .i64 x333002_1] 32 (0, 0))) ∧ Aside0 (Below w.heap.size w w'))
  case atStart => exact ⟨(a2), (0), (0), (0), (0), (by first | rfl | (simp; done) | (simp [*]; done)), (by first | rfl | (simp; done) | (simp [*]; done)), H', ⟨Nat.le_refl _⟩, ⟨by (with_reducible repeat (first | refine blk_drewN ?_ _ | refine blk_drew ?_ | refine blk_alloc ?_ _)); exact BK332.out⟩, ⟨by repeat (first | (with_reducible first | exact HB.out | apply below_alloc | apply pw_below_drewN | apply below_drew1 | refine below_set ?_ GE332.out) | exact HB.out)⟩⟩
  case round =>
    clear H'
    try clear c1
    try clear p2
    try clear c4
    try clear c4b0
    try clear hcz6_0
    try clear hcz6_1
    try clear hcz6_2
    try clear hfz6_0
    try clear hfz6_1
    try clear hfz6_2
    obtain ⟨x2_1, x15_1, x333000_1, x333001_1, x333002_1, rfl, rfl, HA, HK1, BK332, HB⟩ := hrel
    cases gk with
    | zero => exact absurd HA.out (by simp [place_Find.l0])
    | succ k1 =>
      have H := HA.out
      clear HA
      simp only [place_Find.l0] at H
      by_cases c9 : x15_1 < (l0.length : Int)
      · rw [if_pos c9] at H
        have c9b0 : decide (x15_1 < (l0.length : Int)) = true := decide_eq_true c9
        clear c9
        by_cases c10 : 0 ≤ x15_1
        · rw [if_pos c10] at H
          have c10b0 : decide (0 ≤ x15_1) = true := decide_eq_true c10
          clear c10
          by_cases c11 : x15_1 < (l0.length : Int)
          · rw [if_pos c11] at H
            have c11b0 : decide (x15_1 < (l0.length : Int)) = true := decide_eq_true c11
            clear c11
            by_cases c12 : ((rd_T32 l0 x15_1).f0) = a1
            · rw [if_pos c12] at H
              have c12b0 : (((rd_T32 l0 x15_1).f0) == a1) = true := beq_iff_eq.mpr c12
              have c12b1 : (((rd_T32 l0 x15_1).f0) != a1) = false := bne_eq_false_iff_eq.mpr c12
              clear c12
              by_cases c13 : x2_1 = 0
              · rw [if_pos c13] at H
                have c13b0 : (x2_1 == 0) = true := beq_iff_eq.mpr c13
                have c13b1 : (x2_1 != 0) = false := bne_eq_false_iff_eq.mpr c13
                clear c13
                simp only [Option.some.injEq, Prod.mk.injEq] at H
                obtain ⟨rfl, rfl, rfl, rfl⟩ := H
                have p333 : 0 ≤ (x15_1 : Int) := of_decide_eq_true (by first | (with_reducible assumption) | assumption)
                have q333 : x15_1 < (l0.length : Int) := of_decide_eq_true (by first | (with_reducible assumption) | assumption)
                obtain ⟨ad333, e333, hx333_0, hx333_1, hx333_2⟩ := at_T32 HR0.out x15_1 p333 q333
                cases e333
                replace hx333_0 := (HB.out.cell (World.block_lt_of_cell? w _ hx333_0)).trans hx333_0
                replace hx333_1 := (HB.out.cell (World.block_lt_of_cell? w _ hx333_1)).trans hx333_1
                replace hx333_2 := (HB.out.cell (World.block_lt_of_cell? w _ hx333_2)).trans hx333_2
                replace p333 := eq_true p333
                replace q333 := eq_true q333
                go_wp2_with (first | ((with_reducible refine gate_dst (N := 9) rfl ?_); refine box_event ?hg (N := 9) ?hd (cs := #[.int .i64 0, .int .i64 0, .int .i64 0]) (t := 32) ?hr ?_; (case hd => rfl); (case hg => rfl); (case hr => first | (go_simp; done) | (go_simp; rfl)); intro gb334 hg w14 hbox hb; have n0_ := bbE BK332 hb; have n1_ := bstE HB hb; have BK334 := Aside0.mk (hbox); have GW334 := geE hg HB; have GE334 := geE hg HB; have NB332_334 := nlE hg BK332; have NB334_332 := ngE hg BK332; clear BK332; clear HB; have BK332 := n0_; have HB := n1_; clear n0_ n1_; clear hb hbox hg; have hnb15 := NB334_332.out; have hnc15 := NB332_334.out; obtain ⟨hcz16_0, hcz16_1, hcz16_2, hfz16_0, hfz16_1, hfz16_2⟩ := bc3 BK334.out) | ((with_reducible refine gate_store (t := 32) (p := 9) rfl ?_); refine store_event (t := 32) (p := 9) (v := ?vo_w17) (w1 := (((w14.setCell ⟨gb334, 0, none⟩ (.int .i64 ((rd_T32 l0 x15_1).f0))).setCell ⟨gb334, 1, none⟩ (.int .i64 ((rd_T32 l0 x15_1).f1))).setCell ⟨gb334, 2, none⟩ (.int .i64 ((rd_T32 l0 x15_1).f2)))) ?hg ?ho ?hn ?hr ?_; (case ho => rfl); (case hg => rfl); (case hn => rfl); (case hr => first | (go_simp; done) | (go_simp; rfl)); intro w17 hw; replace BK332 := bfE hw BK332 NB332_334; replace BK334 : Aside0 (w17.heap[gb334]? = some (.cells #[.int .i64 ((rd_T32 l0 x15_1).f0), .int .i64 ((rd_T32 l0 x15_1).f1), .int .i64 ((rd_T32 l0 x15_1).f2)] 32 (0, 0))) := ⟨by rw [hw]; apply puts3; exact BK334.out⟩; replace HB := bsE hw HB GE334; clear hw; obtain ⟨hcz18_0, hcz18_1, hcz18_2, hfz18_0, hfz18_1, hfz18_2⟩ := bc3 BK334.out; obtain ⟨hcz19_0, hcz19_1, hcz19_2, hfz19_0, hfz19_1, hfz19_2⟩ := bc3 BK332.out) | ((with_reducible refine gate_store (t := 32) (p := 6) rfl ?_); refine store_event (t := 32) (p := 6) (v := ?vo_w20) (w1 := (((w17.setCell ⟨gb332, 0, none⟩ (.int .i64 ((rd_T32 l0 x15_1).f0))).setCell ⟨gb332, 1, none⟩ (.int .i64 ((rd_T32 l0 x15_1).f1))).setCell ⟨gb332, 2, none⟩ (.int .i64 ((rd_T32 l0 x15_1).f2)))) ?hg ?ho ?hn ?hr ?_; (case ho => rfl); (case hg => rfl); (case hn => rfl); (case hr => first | (go_simp; done) | (go_simp; rfl)); intro w20 hw; replace BK332 : Aside0 (w20.heap[gb332]? = some (.cells #[.int .i64 ((rd_T32 l0 x15_1).f0), .int .i64 ((rd_T32 l0 x15_1).f1), .int .i64 ((rd_T32 l0 x15_1).f2)] 32 (0, 0))) := ⟨by rw [hw]; apply puts3; exact BK332.out⟩; replace BK334 := bfE hw BK334 NB334_332; replace HB := bsE hw HB GE332; clear hw))
                refine bodyPost_ret (results_ct rfl _ _ gb332 32 #[.int .i64 ((rd_T32 l0 x15_1).f0), .int .i64 ((rd_T32 l0 x15_1).f1), .int .i64 ((rd_T32 l0 x15_1).f2)] (0, 0) _ rfl (pk BK332) Try.underlying32 rfl (by kernel_rfl)) rfl ?_
                exact ⟨by first | rfl | (simp [errW_none, errW_some] <;> rfl) | (simp [*, errW_none, errW_some] <;> rfl), by repeat (first | (with_reducible first | exact HB.out | apply below_alloc | apply pw_below_drewN | apply below_drew1 | refine below_set ?_ GE332.out | refine below_set ?_ GE334.out) | exact HB.out)⟩
              rw [if_neg c13] at H
              have c13b0 : (x2_1 == 0) = false := beq_eq_false_iff_ne.mpr c13
              have c13b1 : (x2_1 != 0) = true := bne_iff_ne.mpr c13
              have H' := Aside0.mk H
              clear H
              have p333 : 0 ≤ (x15_1 : Int) := of_decide_eq_true (by first | (with_reducible assumption) | assumption)
              have q333 : x15_1 < (l0.length : Int) := of_decide_eq_true (by first | (with_reducible assumption) | assumption)
              obtain ⟨ad333, e333, hx333_0, hx333_1, hx333_2⟩ := at_T32 HR0.out x15_1 p333 q333
              cases e333
              replace hx333_0 := (HB.out.cell (World.block_lt_of_cell? w _ hx333_0)).trans hx333_0
              replace hx333_1 := (HB.out.cell (World.block_lt_of_cell? w _ hx333_1)).trans hx333_1
              replace hx333_2 := (HB.out.cell (World.block_lt_of_cell? w _ hx333_2)).trans hx333_2
              replace p333 := eq_true p333
              replace q333 := eq_true q333
              go_wp2_with (first | ((with_reducible refine gate_dst (N := 9) rfl ?_); refine box_event ?hg (N := 9) ?hd (cs := #[.int .i64 0, .int .i64 0, .int .i64 0]) (t := 32) ?hr ?_; (case hd => rfl); (case hg => rfl); (case hr => first | (go_simp; done) | (go_simp; rfl)); intro gb334 hg w21 hbox hb; have n0_ := bbE BK332 hb; have n1_ := bstE HB hb; have BK334 := Aside0.mk (hbox); have GW334 := geE hg HB; have GE334 := geE hg HB; have NB332_334 := nlE hg BK332; have NB334_332 := ngE hg BK332; clear BK332; clear HB; have BK332 := n0_; have HB := n1_; clear n0_ n1_; clear hb hbox hg; have hnb22 := NB334_332.out; have hnc22 := NB332_334.out; obtain ⟨hcz23_0, hcz23_1, hcz23_2, hfz23_0, hfz23_1, hfz23_2⟩ := bc3 BK334.out) | ((with_reducible refine gate_store (t := 32) (p := 9) rfl ?_); refine store_event (t := 32) (p := 9) (v := ?vo_w24) (w1 := (((w21.setCell ⟨gb334, 0, none⟩ (.int .i64 ((rd_T32 l0 x15_1).f0))).setCell ⟨gb334, 1, none⟩ (.int .i64 ((rd_T32 l0 x15_1).f1))).setCell ⟨gb334, 2, none⟩ (.int .i64 ((rd_T32 l0 x15_1).f2)))) ?hg ?ho ?hn ?hr ?_; (case ho => rfl); (case hg => rfl); (case hn => rfl); (case hr => first | (go_simp; done) | (go_simp; rfl)); intro w24 hw; replace BK332 := bfE hw BK332 NB332_334; replace BK334 : Aside0 (w24.heap[gb334]? = some (.cells #[.int .i64 ((rd_T32 l0 x15_1).f0), .int .i64 ((rd_T32 l0 x15_1).f1), .int .i64 ((rd_T32 l0 x15_1).f2)] 32 (0, 0))) := ⟨by rw [hw]; apply puts3; exact BK334.out⟩; replace HB := bsE hw HB GE334; clear hw; obtain ⟨hcz25_0, hcz25_1, hcz25_2, hfz25_0, hfz25_1, hfz25_2⟩ := bc3 BK334.out))
              go_roundg k1
              case measure => have := HK1.out; omega
              case rel => exact ⟨(wrap64 (x2_1 - 1)), (wrap64 (x15_1 + 1)), (x333000_1), (x333001_1), (x333002_1), (by first | rfl | (simp; done) | (simp [*]; done)), (by first | rfl | (simp; done) | (simp [*]; done)), H', ⟨by have := HK1.out; omega⟩, ⟨by (with_reducible repeat (first | refine blk_drewN ?_ _ | refine blk_drew ?_ | refine blk_alloc ?_ _)); exact BK332.out⟩, ⟨by repeat (first | (with_reducible first | exact HB.out | apply below_alloc | apply pw_below_drewN | apply below_drew1 | refine below_set ?_ GE332.out | refine below_set ?_ GE334.out) | exact HB.out)⟩⟩
            rw [if_neg c12] at H
            have c12b0 : (((rd_T32 l0 x15_1).f0) == a1) = false := beq_eq_false_iff_ne.mpr c12
            have c12b1 : (((rd_T32 l0 x15_1).f0) != a1) = true := bne_iff_ne.mpr c12
            have H' := Aside0.mk H
            clear H
            have p333 : 0 ≤ (x15_1 : Int) := of_decide_eq_true (by first | (with_reducible assumption) | assumption)
            have q333 : x15_1 < (l0.length : Int) := of_decide_eq_true (by first | (with_reducible assumption) | assumption)
            obtain ⟨ad333, e333, hx333_0, hx333_1, hx333_2⟩ := at_T32 HR0.out x15_1 p333 q333
            cases e333
            replace hx333_0 := (HB.out.cell (World.block_lt_of_cell? w _ hx333_0)).trans hx333_0
            replace hx333_1 := (HB.out.cell (World.block_lt_of_cell? w _ hx333_1)).trans hx333_1
            replace hx333_2 := (HB.out.cell (World.block_lt_of_cell? w _ hx333_2)).trans hx333_2
            replace p333 := eq_true p333
            replace q333 := eq_true q333
            go_wp2_with (first | ((with_reducible refine gate_dst (N := 9) rfl ?_); refine box_event ?hg (N := 9) ?hd (cs := #[.int .i64 0, .int .i64 0, .int .i64 0]) (t := 32) ?hr ?_; (case hd => rfl); (case hg => rfl); (case hr => first | (go_simp; done) | (go_simp; rfl)); intro gb334 hg w26 hbox hb; have n0_ := bbE BK332 hb; have n1_ := bstE HB hb; have BK334 := Aside0.mk (hbox); have GW334 := geE hg HB; have GE334 := geE hg HB; have NB332_334 := nlE hg BK332; have NB334_332 := ngE hg BK332; clear BK332; clear HB; have BK332 := n0_; have HB := n1_; clear n0_ n1_; clear hb hbox hg; have hnb27 := NB334_332.out; have hnc27 := NB332_334.out; obtain ⟨hcz28_0, hcz28_1, hcz28_2, hfz28_0, hfz28_1, hfz28_2⟩ := bc3 BK334.out) | ((with_reducible refine gate_store (t := 32) (p := 9) rfl ?_); refine store_event (t := 32) (p := 9) (v := ?vo_w29) (w1 := (((w26.setCell ⟨gb334, 0, none⟩ (.int .i64 ((rd_T32 l0 x15_1).f0))).setCell ⟨gb334, 1, none⟩ (.int .i64 ((rd_T32 l0 x15_1).f1))).setCell ⟨gb334, 2, none⟩ (.int .i64 ((rd_T32 l0 x15_1).f2)))) ?hg ?ho ?hn ?hr ?_; (case ho => rfl); (case hg => rfl); (case hn => rfl); (case hr => first | (go_simp; done) | (go_simp; rfl)); intro w29 hw; replace BK332 := bfE hw BK332 NB332_334; replace BK334 : Aside0 (w29.heap[gb334]? = some (.cells #[.int .i64 ((rd_T32 l0 x15_1).f0), .int .i64 ((rd_T32 l0 x15_1).f1), .int .i64 ((rd_T32 l0 x15_1).f2)] 32 (0, 0))) := ⟨by rw [hw]; apply puts3; exact BK334.out⟩; replace HB := bsE hw HB GE334; clear hw; obtain ⟨hcz30_0, hcz30_1, hcz30_2, hfz30_0, hfz30_1, hfz30_2⟩ := bc3 BK334.out))
            go_roundg k1
            case measure => have := HK1.out; omega
            case rel => exact ⟨(x2_1), (wrap64 (x15_1 + 1)), (x333000_1), (x333001_1), (x333002_1), (by first | rfl | (simp; done) | (simp [*]; done)), (by first | rfl | (simp; done) | (simp [*]; done)), H', ⟨by have := HK1.out; omega⟩, ⟨by (with_reducible repeat (first | refine blk_drewN ?_ _ | refine blk_drew ?_ | refine blk_alloc ?_ _)); exact BK332.out⟩, ⟨by repeat (first | (with_reducible first | exact HB.out | apply below_alloc | apply pw_below_drewN | apply below_drew1 | refine below_set ?_ GE332.out | refine below_set ?_ GE334.out) | exact HB.out)⟩⟩
          rw [if_neg c11] at H
          exact absurd H (by simp)
        rw [if_neg c10] at H
        exact absurd H (by simp)
      rw [if_neg c9] at H
      have c9b0 : decide (x15_1 < (l0.length : Int)) = false := decide_eq_false c9
      clear c9
      simp only [Option.some.injEq, Prod.mk.injEq] at H
      obtain ⟨rfl, rfl, rfl, rfl⟩ := H
      obtain ⟨hcz31_0, hcz31_1, hcz31_2, hfz31_0, hfz31_1, hfz31_2⟩ := bc3 BK332.out
      go_wp2_with (first | ((with_reducible refine gate_store (t := 32) (p := 6) rfl ?_); refine store_event (t := 32) (p := 6) (v := ?vo_w32) (w1 := (((wr.setCell ⟨gb332, 0, none⟩ (.int .i64 0)).setCell ⟨gb332, 1, none⟩ (.int .i64 0)).setCell ⟨gb332, 2, none⟩ (.int .i64 0))) ?hg ?ho ?hn ?hr ?_; (case ho => rfl); (case hg => rfl); (case hn => rfl); (case hr => first | (go_simp; done) | (go_simp; rfl)); intro w32 hw; replace BK332 : Aside0 (w32.heap[gb332]? = some (.cells #[.int .i64 0, .int .i64 0, .int .i64 0] 32 (0, 0))) := ⟨by rw [hw]; apply puts3; exact BK332.out⟩; replace HB := bsE hw HB GE332; clear hw))
      refine bodyPost_ret (results_ct rfl _ _ gb332 32 #[.int .i64 0, .int .i64 0, .int .i64 0] (0, 0) _ rfl (pk BK332) Try.underlying32 rfl (by kernel_rfl)) rfl ?_
      exact ⟨by first | rfl | (simp [errW_none, errW_some] <;> rfl) | (simp [*, errW_none, errW_some] <;> rfl), by repeat (first | (with_reducible first | exact HB.out | apply below_alloc | apply pw_below_drewN | apply below_drew1 | refine below_set ?_ GE332.out) | exact HB.out)⟩
end Go.Proofs.Ytcbdgknfkoodoaa.F
namespace Go.Proofs.Ytcbdgknfkoodoaa.F
open Go.RowKit Go.Proofs.YtcbdgknfkoodoaaW.PrintWords Go.Proofs.YtcbdgknfkoodoaaW.PrintLast Go.Proofs.YtcbdgknfkoodoaaW.PrintMore
attribute [local go_sem] max2_int min2_int max_two min_two max_three min_three max_four min_four   
set_option linter.unusedVariables false
set_option linter.unusedSimpArgs false
def ownB (a1 : Int) (p : S32) : Bool := decide (p.f1 ≤ a1) && (decide (0 < p.f2) && decide (IntKind.u64.wrap (IntKind.u64.wrap a1 - IntKind.u64.wrap p.f1) < IntKind.u64.wrap p.f2))
set_option maxHeartbeats 1000000 in
theorem owner_has (p : S32) (a1 : Int) (ga : Nat) (w : World) (hc : w.cell? ⟨ga, 0, none⟩ = some (.int .i64 a1)) :
    Calls Try.prog 31 #[.agg #[.int .i64 p.f0, .int .i64 p.f1, .int .i64 p.f2], .pointer (some ⟨ga, 0, none⟩)] w fun e w' => e = .returned (.bool (ownB a1 p)) ∧ Below w.heap.size w w' := by
  have hB : Hid (ownB a1 p = (decide (p.f1 ≤ a1) && (decide (0 < p.f2) && decide (IntKind.u64.wrap (IntKind.u64.wrap a1 - IntKind.u64.wrap p.f1) < IntKind.u64.wrap p.f2)))) := rfl
  have hlt : ga < w.heap.size := World.block_lt_of_cell? w _ hc
  have hne : (ga = w.heap.size) = False := eq_false (Nat.ne_of_lt hlt)
  have hne2 : (w.heap.size = ga) = False := eq_false (Nat.ne_of_gt hlt)
  go_enter Try.func31, Try.ntmps31
  go_wp2
  all_goals
    go_ret
    refine ⟨?_, below_alloc (Below.refl _ _) _⟩
    rw [hB.out]
    simp [*, Int.not_le.2, Int.not_lt.2]
def place_Owner.f (l0 : List S32) (a1 : Int) : Option Int := some (((l0.find? (ownB a1)).map S32.f0).getD (-1))
theorem find_snoc {α : Type} (q : α → Bool) (l : List α) (k : Nat) (h : k < l.length) (hn : (l.take k).find? q = none) : (q l[k] = true → l.find? q = some l[k]) ∧ (q l[k] = false → (l.take (k + 1)).find? q = none) := by
  refine ⟨fun hq => ?_, fun hq => ?_⟩
  · have e : l.find? q = (l.take k ++ (l[k] :: l.drop (k + 1))).find? q := congrArg _ (by simp)
    rw [e, List.find?_append, hn, Option.none_or, List.find?_cons, hq]
  rw [List.take_succ_eq_append_getElem h, List.find?_append, hn]
  simp [List.find?_cons, hq]
set_option maxHeartbeats 4000000 in
set_option maxRecDepth 100000 in
theorem place_Owner.calls (A0 : Option Addr) (c0 : Nat) (l0 : List S32) (a1 : Int) (r : Int) (w : World) (hr0 : Kd.C k32 w A0 l0.length l0) (hc0 : l0.length ≤ c0) (h : place_Owner.f l0 a1 = some r) :
    Calls Try.prog 15 #[.slice A0 l0.length c0, .int .i64 a1] w fun e w' => e = .returned (.int .i64 r) ∧ Below w.heap.size w w' := by
  have hm : l0.length ≤ 9223372036854775807 := hr0.2.1
  have HR := Aside0.mk hr0
  have HF : Hid (((l0.find? (ownB a1)).map S32.f0).getD (-1) = r) := Option.some.inj h
  clear h hr0
  have hbx : (w.alloc (.cells #[.int .i64 a1] 3)).cell? ⟨w.heap.size, 0, none⟩ = some (.int .i64 a1) := by simp [go_sem]
  have HX := Aside0.mk hbx
  clear hbx
  go_enter Try.func15, Try.ntmps15
  go_wp2
  go_loopw [11] (fun i wr => ∃ k : Nat, k ≤ l0.length ∧ i = .int .i64 k ∧ (l0.take k).find? (ownB a1) = none ∧ Aside0 (wr.cell? ⟨w.heap.size, 0, none⟩ = some (.int .i64 a1)) ∧ Aside0 (Below w.heap.size w wr)) (fun i _ => l0.length - (intOf i).toNat)
  case atStart => exact ⟨0, Nat.zero_le _, rfl, rfl, ⟨HX.out⟩, ⟨below_alloc (Below.refl _ _) _⟩⟩
  case round =>
    obtain ⟨k, hk, rfl, hn, HC, HB⟩ := hrel
    by_cases hlt : k < l0.length
    · have hs := Lib.hid (find_snoc (ownB a1) l0 k hlt hn)
      have hn' := Lib.hid hn
      clear hn
      obtain ⟨ad, rfl, hx0, hx1, hx2⟩ := at_T32 HR.out (k : Int) (by omega) (by omega)
      have hg : rd_T32 l0 (k : Int) = l0[k] := by simp [rd_T32, hlt]
      rw [hg] at hx0 hx1 hx2
      rw [Int.toNat_natCast] at hx0 hx1 hx2
      replace hx0 := (HB.out.cell (World.block_lt_of_cell? w _ hx0)).trans hx0
      replace hx1 := (HB.out.cell (World.block_lt_of_cell? w _ hx1)).trans hx1
      replace hx2 := (HB.out.cell (World.block_lt_of_cell? w _ hx2)).trans hx2
      obtain ⟨p, hp⟩ : ∃ p, p = l0[k] := ⟨_, rfl⟩
      rw [← hp] at hx0 hx1 hx2 hs
      have HP := Lib.hid hp
      clear hp hg
      have hb1 := below_alloc HB.out (.cells #[.int .i64 p.f0, .int .i64 p.f1, .int .i64 p.f2] 32)
      have hcc : (wr.alloc (.cells #[.int .i64 p.f0, .int .i64 p.f1, .int .i64 p.f2] 32)).cell? ⟨w.heap.size, 0, none⟩ = some (.int .i64 a1) :=
        ((Below.refl wr.heap.size wr).alloc (Nat.le_refl _) _).cell (p := ⟨w.heap.size, 0, none⟩) (World.block_lt_of_cell? wr _ HC.out) |>.trans HC.out
      have hff : (wr.alloc (.cells #[.int .i64 p.f0, .int .i64 p.f1, .int .i64 p.f2] 32)).cell? ⟨wr.heap.size, 0, none⟩ = some (.int .i64 p.f0) := by simp [go_sem]
      have HC2 := Aside0.mk hcc
      have HF2 := Aside0.mk hff
      have HB1 := Aside0.mk hb1
      clear hcc hff hb1
      cases hq : ownB a1 p
      all_goals
        have HQ := Lib.hid hq
        clear hq
        go_wp2_with (go_at_call 31; refine (owner_has p a1 w.heap.size _ HC2.out).mono ?_; rintro e w2 ⟨rfl, hb⟩; rw [HQ.out]; have hc0 := (hb.cell (p := ⟨wr.heap.size, 0, none⟩) (World.block_lt_of_cell? _ _ HF2.out)).trans HF2.out; have HB2 := Aside0.mk (below_step HB1.out hb); have HC3 := Aside0.mk ((hb.cell (p := ⟨w.heap.size, 0, none⟩) (World.block_lt_of_cell? _ _ HC2.out)).trans HC2.out); clear hb hx0 hx1 hx2)
      · go_roundw
        case rel => exact ⟨k + 1, by omega, by go_num, hs.out.2 HQ.out, HC3, HB2⟩
        case measure => simp [intOf]; omega
      go_ret
      refine ⟨?_, HB2.out⟩
      rw [← HF.out, hs.out.1 HQ.out]
      rfl
    have hk' := Lib.hid (show k = l0.length by omega)
    go_wp2
    go_ret
    refine ⟨?_, HB.out⟩
    rw [← HF.out, show l0.take k = l0 by rw [hk'.out, List.take_length]] at *
    rw [hn]
    rfl
end Go.Proofs.Ytcbdgknfkoodoaa.F
namespace Go.Proofs.Ytcbdgknfkoodoaa.F
open Go.RowKit Go.Proofs.YtcbdgknfkoodoaaW.PrintWords Go.Proofs.YtcbdgknfkoodoaaW.PrintLast Go.Proofs.YtcbdgknfkoodoaaW.PrintMore
attribute [local go_sem] max2_int min2_int max_two min_two max_three min_three max_four min_four   
set_option linter.unusedVariables false
set_option linter.unusedSimpArgs false
attribute [local go_sem high] eqA32
def crossbarlaw07_awake.f (k : Nat)  : Option (Bool) := (place_Of.f k (([177, 0, 0, 1, 0, 0, 0, 2, 0, 0, 0, 3, 0, 0, 0, 4, 190, 222, 0, 1, 9, 9, 9, 9, 7, 0, 2] : List Int))).bind fun bt338 => ((place_Find.f k bt338.1 9 0).bind fun bt342 => ((place_Find.f k bt338.1 6 1).bind fun bt347 => (if bt338.2 = 0 then (if bt342.2.2.2 = 0 then (if bt347.2.2.2 = 8 then (if (bt338.1.length : Int) = 12 then (if (bt342.1 == 9 && (bt342.2.1 == 20 && (bt342.2.2.1 == 4))) = true then ((place_Owner.f bt338.1 24).bind fun t352 => (if t352 = 10 then ((place_Owner.f bt338.1 27).bind fun t353 => (some (t353 == (-1)))) else (none))) else (none)) else (none)) else (none)) else (none)) else (none))))
theorem crossbarlaw07_awake.mono : ∀ k, LeO (crossbarlaw07_awake.f k ) (crossbarlaw07_awake.f (k + 1) ) := by
  intro  k
  unfold crossbarlaw07_awake.f
  repeat' first
      | (with_reducible exact place_Find.mono _ _ _ _)
      | (with_reducible exact place_Of.mono _ _)
      | (with_reducible exact LeO.refl _)
      | (with_reducible exact LeO.none _)
      | (with_reducible refine LeO.ite ?_ ?_)
      | (with_reducible refine LeO.bind ?_ (fun _ => ?_))
      | exact place_Find.mono _ _ _ _
      | exact place_Of.mono _ _
      | exact LeO.none _
      | refine LeO.ite ?_ ?_
      | refine LeO.bind ?_ (fun _ => ?_)
set_option maxHeartbeats 8000000 in
set_option maxRecDepth 100000 in
theorem crossbarlaw07_awake.calls (k : Nat)  (r : Bool) (w : World) (h : crossbarlaw07_awake.f k  = some r) :
    Calls Try.prog 9 #[] w fun e w' => e = .returned (.bool r) ∧ Below w.heap.size w w' := by
  have hu32 := Try.underlying32
  have HB := Aside0.mk (Below.refl w.heap.size w)
  have H : ((place_Of.f k (([177, 0, 0, 1, 0, 0, 0, 2, 0, 0, 0, 3, 0, 0, 0, 4, 190, 222, 0, 1, 9, 9, 9, 9, 7, 0, 2] : List Int))).bind fun bt338 => ((place_Find.f k bt338.1 9 0).bind fun bt342 => ((place_Find.f k bt338.1 6 1).bind fun bt347 => (if bt338.2 = 0 then (if bt342.2.2.2 = 0 then (if bt347.2.2.2 = 8 then (if (bt338.1.length : Int) = 12 then (if (bt342.1 == 9 && (bt342.2.1 == 20 && (bt342.2.2.1 == 4))) = true then ((place_Owner.f bt338.1 24).bind fun t352 => (if t352 = 10 then ((place_Owner.f bt338.1 27).bind fun t353 => (some (t353 == (-1)))) else (none))) else (none)) else (none)) else (none)) else (none)) else (none))))) = some r := h
  clear h
  obtain ⟨y335, hy335⟩ : ∃ y_ : List Int, y_ = (([177, 0, 0, 1, 0, 0, 0, 2, 0, 0, 0, 3, 0, 0, 0, 4, 190, 222, 0, 1, 9, 9, 9, 9, 7, 0, 2] : List Int)) := ⟨_, rfl⟩
  replace H : ((place_Of.f k y335).bind fun bt338 => ((place_Find.f k bt338.1 9 0).bind fun bt342 => ((place_Find.f k bt338.1 6 1).bind fun bt347 => (if bt338.2 = 0 then (if bt342.2.2.2 = 0 then (if bt347.2.2.2 = 8 then (if (bt338.1.length : Int) = 12 then (if (bt342.1 == 9 && (bt342.2.1 == 20 && (bt342.2.2.1 == 4))) = true then ((place_Owner.f bt338.1 24).bind fun t352 => (if t352 = 10 then ((place_Owner.f bt338.1 27).bind fun t353 => (some (t353 == (-1)))) else (none))) else (none)) else (none)) else (none)) else (none)) else (none))))) = some r := by first | (rw [hy335]; with_reducible exact H) | (have H2_ := (Option.bind_some _ _).symm.trans H; rw [hy335]; with_reducible exact H2_) | (have H2_ := (Option.bind_some _ _).symm.trans H; with_reducible exact H2_) | with_reducible exact H | (rw [hy335]; exact H) | exact H
  have Ny335 := Aside0.mk hy335
  clear hy335
  replace H := Option.bind_eq_some_iff.mp H
  obtain ⟨⟨t338, t339⟩, A10, H⟩ := H
  replace H : ((place_Find.f k t338 9 0).bind fun bt342 => ((place_Find.f k t338 6 1).bind fun bt347 => (if t339 = 0 then (if bt342.2.2.2 = 0 then (if bt347.2.2.2 = 8 then (if (t338.length : Int) = 12 then (if (bt342.1 == 9 && (bt342.2.1 == 20 && (bt342.2.2.1 == 4))) = true then ((place_Owner.f t338 24).bind fun t352 => (if t352 = 10 then ((place_Owner.f t338 27).bind fun t353 => (some (t353 == (-1)))) else (none))) else (none)) else (none)) else (none)) else (none)) else (none)))) = some r := H
  have A1 := Aside0.mk A10
  clear A10
  replace H := Option.bind_eq_some_iff.mp H
  obtain ⟨⟨t342, t343, t344, t345⟩, A20, H⟩ := H
  replace H : ((place_Find.f k t338 6 1).bind fun bt347 => (if t339 = 0 then (if t345 = 0 then (if bt347.2.2.2 = 8 then (if (t338.length : Int) = 12 then (if (t342 == 9 && (t343 == 20 && (t344 == 4))) = true then ((place_Owner.f t338 24).bind fun t352 => (if t352 = 10 then ((place_Owner.f t338 27).bind fun t353 => (some (t353 == (-1)))) else (none))) else (none)) else (none)) else (none)) else (none)) else (none))) = some r := H
  have A2 := Aside0.mk A20
  clear A20
  replace H := Option.bind_eq_some_iff.mp H
  obtain ⟨⟨t347, t348, t349, t350⟩, A30, H⟩ := H
  replace H : (if t339 = 0 then (if t345 = 0 then (if t350 = 8 then (if (t338.length : Int) = 12 then (if (t342 == 9 && (t343 == 20 && (t344 == 4))) = true then ((place_Owner.f t338 24).bind fun t352 => (if t352 = 10 then ((place_Owner.f t338 27).bind fun t353 => (some (t353 == (-1)))) else (none))) else (none)) else (none)) else (none)) else (none)) else (none)) = some r := H
  have A3 := Aside0.mk A30
  clear A30
  by_cases c4 : t339 = 0
  · rw [if_pos c4] at H
    have c4b0 : (t339 == 0) = true := beq_iff_eq.mpr c4
    have c4b1 : (t339 != 0) = false := bne_eq_false_iff_eq.mpr c4
    clear c4
    by_cases c5 : t345 = 0
    · rw [if_pos c5] at H
      have c5b0 : (t345 == 0) = true := beq_iff_eq.mpr c5
      have c5b1 : (t345 != 0) = false := bne_eq_false_iff_eq.mpr c5
      clear c5
      by_cases c6 : t350 = 8
      · rw [if_pos c6] at H
        have c6b0 : (t350 == 8) = true := beq_iff_eq.mpr c6
        have c6b1 : (t350 != 8) = false := bne_eq_false_iff_eq.mpr c6
        clear c6
        by_cases c7 : (t338.length : Int) = 12
        · rw [if_pos c7] at H
          have c7b0 : ((t338.length : Int) == 12) = true := beq_iff_eq.mpr c7
          have c7b1 : ((t338.length : Int) != 12) = false := bne_eq_false_iff_eq.mpr c7
          clear c7
          by_cases c8 : (t342 == 9 && (t343 == 20 && (t344 == 4))) = true
          · rw [if_pos c8] at H
            have c8b0 : (t342 == 9 && (t343 == 20 && (t344 == 4))) = true := c8
            (try (have c8b1 : decide (t342 = 9 && (t343 == 20 && (t344 == 4))) = true := by simpa using c8))
            (try (have c8b2 : (t342 == 9 && (t343 == 20 && (t344 == 4))) = true := by simpa using c8))
            clear c8
            replace H := Option.bind_eq_some_iff.mp H
            obtain ⟨t352, A90, H⟩ := H
            replace H : (if t352 = 10 then ((place_Owner.f t338 27).bind fun t353 => (some (t353 == (-1)))) else (none)) = some r := H
            have A9 := Aside0.mk A90
            clear A90
            by_cases c10 : t352 = 10
            · rw [if_pos c10] at H
              have c10b0 : (t352 == 10) = true := beq_iff_eq.mpr c10
              have c10b1 : (t352 != 10) = false := bne_eq_false_iff_eq.mpr c10
              clear c10
              replace H := Option.bind_eq_some_iff.mp H
              obtain ⟨t353, A110, H⟩ := H
              replace H : (some (t353 == (-1))) = some r := H
              have A11 := Aside0.mk A110
              clear A110
              obtain rfl := Option.some.inj H
              go_enter Try.func9, Try.ntmps9
              go_wp2_with (first | ((with_reducible refine gate_dst (N := 8) rfl ?_); (try (refine gate_guard (by rfl) ?_; dsimp only)); refine Kd.R_lit (Kd.int .u8) _ 5 ?hg (N := 8) ?hd (xs := ([177, 0, 0, 1, 0, 0, 0, 2, 0, 0, 0, 3, 0, 0, 0, 4, 190, 222, 0, 1, 9, 9, 9, 9, 7, 0, 2] : List Int)) (inner := [.int .u8 177, .int .u8 0, .int .u8 0, .int .u8 1, .int .u8 0, .int .u8 0, .int .u8 0, .int .u8 2, .int .u8 0, .int .u8 0, .int .u8 0, .int .u8 3, .int .u8 0, .int .u8 0, .int .u8 0, .int .u8 4, .int .u8 190, .int .u8 222, .int .u8 0, .int .u8 1, .int .u8 9, .int .u8 9, .int .u8 9, .int .u8 9, .int .u8 7, .int .u8 0, .int .u8 2]) (ok := fun _ => True) (okp := fun _ => True) ?hr ?hp (fun _ hk => hk) trivial (Below.refl _ _) (Nat.le_refl _) (by simp) ?_; (case hd => rfl); (case hg => rfl); (case hr => first | (go_simp; done) | (go_simp; rfl)); (case hp => exact (Reps.one (show Kd.M (Kd.int .u8) _ _ _ 177 [.int .u8 177] from rfl) (Reps.one (show Kd.M (Kd.int .u8) _ _ _ 0 [.int .u8 0] from rfl) (Reps.one (show Kd.M (Kd.int .u8) _ _ _ 0 [.int .u8 0] from rfl) (Reps.one (show Kd.M (Kd.int .u8) _ _ _ 1 [.int .u8 1] from rfl) (Reps.one (show Kd.M (Kd.int .u8) _ _ _ 0 [.int .u8 0] from rfl) (Reps.one (show Kd.M (Kd.int .u8) _ _ _ 0 [.int .u8 0] from rfl) (Reps.one (show Kd.M (Kd.int .u8) _ _ _ 0 [.int .u8 0] from rfl) (Reps.one (show Kd.M (Kd.int .u8) _ _ _ 2 [.int .u8 2] from rfl) (Reps.one (show Kd.M (Kd.int .u8) _ _ _ 0 [.int .u8 0] from rfl) (Reps.one (show Kd.M (Kd.int .u8) _ _ _ 0 [.int .u8 0] from rfl) (Reps.one (show Kd.M (Kd.int .u8) _ _ _ 0 [.int .u8 0] from rfl) (Reps.one (show Kd.M (Kd.int .u8) _ _ _ 3 [.int .u8 3] from rfl) (Reps.one (show Kd.M (Kd.int .u8) _ _ _ 0 [.int .u8 0] from rfl) (Reps.one (show Kd.M (Kd.int .u8) _ _ _ 0 [.int .u8 0] from rfl) (Reps.one (show Kd.M (Kd.int .u8) _ _ _ 0 [.int .u8 0] from rfl) (Reps.one (show Kd.M (Kd.int .u8) _ _ _ 4 [.int .u8 4] from rfl) (Reps.one (show Kd.M (Kd.int .u8) _ _ _ 190 [.int .u8 190] from rfl) (Reps.one (show Kd.M (Kd.int .u8) _ _ _ 222 [.int .u8 222] from rfl) (Reps.one (show Kd.M (Kd.int .u8) _ _ _ 0 [.int .u8 0] from rfl) (Reps.one (show Kd.M (Kd.int .u8) _ _ _ 1 [.int .u8 1] from rfl) (Reps.one (show Kd.M (Kd.int .u8) _ _ _ 9 [.int .u8 9] from rfl) (Reps.one (show Kd.M (Kd.int .u8) _ _ _ 9 [.int .u8 9] from rfl) (Reps.one (show Kd.M (Kd.int .u8) _ _ _ 9 [.int .u8 9] from rfl) (Reps.one (show Kd.M (Kd.int .u8) _ _ _ 9 [.int .u8 9] from rfl) (Reps.one (show Kd.M (Kd.int .u8) _ _ _ 7 [.int .u8 7] from rfl) (Reps.one (show Kd.M (Kd.int .u8) _ _ _ 0 [.int .u8 0] from rfl) (Reps.one (show Kd.M (Kd.int .u8) _ _ _ 2 [.int .u8 2] from rfl) (Reps.none _ _))))))))))))))))))))))))))))); intro v336 w12 ho13 hb hg_ hnew_; clear hg_ hnew_; (first | rw [← Ny335.out] at ho13 | (simp only [Int.reduceToNat] at ho13; rw [← Ny335.out] at ho13)); have HO337 := Aside0.mk (Kd.R_lower ho13 (below_size (pB HB))); replace HB := bstE HB hb; clear hb ho13; obtain ⟨Ao14, co14, eo14⟩ := Kd.R_slice HO337.out; subst eo14) | ((with_reducible refine gate_callee (f := 10) rfl ?_); refine goesL_ (some 11) rfl rfl Try.func10 (by kernel_rfl) rfl #[.slice Ao14 y335.length co14] rfl (by (try simp only [List.map_toArray, List.map_cons, List.map_nil]); first | done | rfl | (simp only [List.length_drop, List.length_take]; rfl)) ?_; (with_reducible refine (place_Of.calls k _ _ y335 t338 t339 _ ?side1 ?side2 A1.out).mono ?_); (case side1 => repeat (first | exact (Kd.R_reads' HO337.out).2.2 | (with_reducible refine Kd.C_alloc ?_ _) | (with_reducible refine Kd.C_drewN ?_ _) | (with_reducible refine Kd.C_drew ?_))); (case side2 => exact (Kd.R_reads' HO337.out).2.1); rintro e w15 ⟨v340, rfl, ho0, hb⟩; refine ⟨_, rfl, ?_⟩; replace HO337 := rbE HO337 hb; have HO341 := Aside0.mk (Kd.R_lower ho0 (below_size (pB HB))); replace HB := bstE HB hb; (try clear hb); (try clear hb2); (try clear hk); (try clear hi); (try clear ho0); obtain ⟨Ao16, co16, eo16⟩ := Kd.R_slice HO341.out; subst eo16) | ((with_reducible refine gate_callee (f := 13) rfl ?_); refine goesL_ (some 16) rfl rfl Try.func13 (by kernel_rfl) rfl #[.slice Ao16 t338.length co16, .int .i64 9, .int .i64 0] rfl (by (try simp only [List.map_toArray, List.map_cons, List.map_nil]); first | done | rfl | (simp only [List.length_drop, List.length_take]; rfl)) ?_; (with_reducible refine (place_Find.calls k _ _ t338 9 0 t342 t343 t344 t345 _ ?side1 ?side2 A2.out).mono ?_); (case side1 => repeat (first | exact (Kd.R_reads' HO341.out).2.2 | (with_reducible refine Kd.C_alloc ?_ _) | (with_reducible refine Kd.C_drewN ?_ _) | (with_reducible refine Kd.C_drew ?_))); (case side2 => exact (Kd.R_reads' HO341.out).2.1); rintro e w17 ⟨rfl, hb⟩; refine ⟨_, rfl, ?_⟩; replace HO337 := rbE HO337 hb; replace HO341 := rbE HO341 hb; replace HB := bstE HB hb; (try clear hb); (try clear hb2); (try clear hk); (try clear hi)) | ((with_reducible refine gate_dst (N := 4) rfl ?_); (try (refine gate_guard (by rfl) ?_; dsimp only)); refine box_event ?hg (N := 4) ?hd (cs := #[.int .i64 0, .int .i64 0, .int .i64 0]) (t := 32) ?hr ?_; (case hd => rfl); (case hg => rfl); (case hr => first | (go_simp; done) | (go_simp; rfl)); intro gb346 hg w18 hbox hb; replace HO337 := rbE HO337 hb; replace HO341 := Aside0.mk (Kd.R_below (Kd.R_elderB (pR HO341) gb346 (Nat.le_of_eq hg.symm)) hb); have n2_ := bstE HB hb; have BK346 := Aside0.mk (hbox); have GW346 := geE hg HB; have GE346 := geE hg HB; clear HB; have HB := n2_; clear n2_; clear hb hbox hg; obtain ⟨hcz19_0, hcz19_1, hcz19_2, hfz19_0, hfz19_1, hfz19_2⟩ := bc3 BK346.out) | ((with_reducible refine gate_store (t := 32) (p := 4) rfl ?_); refine store_event (t := 32) (p := 4) (v := ?vo_w20) (w1 := (((w18.setCell ⟨gb346, 0, none⟩ (.int .i64 t342)).setCell ⟨gb346, 1, none⟩ (.int .i64 t343)).setCell ⟨gb346, 2, none⟩ (.int .i64 t344))) ?hg ?ho ?hn ?hr ?_; (case ho => rfl); (case hg => rfl); (case hn => rfl); (case hr => first | (go_simp; done) | (go_simp; rfl)); intro w20 hw; replace HO337 := rfE hw HO337 BK346; replace HO341 : Aside0 (Kd.R k32 32 w20 w.heap.size (fun k_ => k_ ≠ gb346) (.slice Ao16 t338.length co16) t338) := ⟨(by rw [hw]; exact (by (with_reducible repeat (first | apply Kd.R_alloc | apply Kd.R_drewN | apply Kd.R_drew)); exact Kd.R_mono (Kd.R_far (p := ⟨gb346, 2, none⟩) (Kd.R_far (p := ⟨gb346, 1, none⟩) (Kd.R_far (p := ⟨gb346, 0, none⟩) (Kd.R_mono HO341.out (fun k_ hk => (⟨hk, hk.2⟩ : _ ∧ k_ ≠ gb346))) (fun _ hk => hk.2) (.int .i64 t342)) (fun _ hk => hk.2) (.int .i64 t343)) (fun _ hk => hk.2) (.int .i64 t344)) (fun _ hk => hk.1.2)))⟩; replace BK346 : Aside0 (w20.heap[gb346]? = some (.cells #[.int .i64 t342, .int .i64 t343, .int .i64 t344] 32 (0, 0))) := ⟨by rw [hw]; apply puts3; exact BK346.out⟩; replace HB := bsE hw HB GE346; clear hw) | ((with_reducible refine gate_callee (f := 13) rfl ?_); refine goesL_ (some 21) rfl rfl Try.func13 (by kernel_rfl) rfl #[.slice Ao16 t338.length co16, .int .i64 6, .int .i64 1] rfl (by (try simp only [List.map_toArray, List.map_cons, List.map_nil]); first | done | rfl | (simp only [List.length_drop, List.length_take]; rfl)) ?_; (with_reducible refine (place_Find.calls k _ _ t338 6 1 t347 t348 t349 t350 _ ?side1 ?side2 A3.out).mono ?_); (case side1 => repeat (first | exact (Kd.R_reads' HO341.out).2.2 | (with_reducible refine Kd.C_alloc ?_ _) | (with_reducible refine Kd.C_drewN ?_ _) | (with_reducible refine Kd.C_drew ?_))); (case side2 => exact (Kd.R_reads' HO341.out).2.1); rintro e w21 ⟨rfl, hb⟩; refine ⟨_, rfl, ?_⟩; replace HO337 := rbE HO337 hb; replace HO341 := rbE HO341 hb; replace BK346 := bbE BK346 hb; replace HB := bstE HB hb; (try clear hb); (try clear hb2); (try clear hk); (try clear hi)) | ((with_reducible refine gate_dst (N := 6) rfl ?_); (try (refine gate_guard (by rfl) ?_; dsimp only)); refine box_event ?hg (N := 6) ?hd (cs := #[.int .i64 0, .int .i64 0, .int .i64 0]) (t := 32) ?hr ?_; (case hd => rfl); (case hg => rfl); (case hr => first | (go_simp; done) | (go_simp; rfl)); intro gb351 hg w22 hbox hb; replace HO337 := rbE HO337 hb; replace HO341 := Aside0.mk (Kd.R_below (Kd.R_elderB (pR HO341) gb351 (Nat.le_of_eq hg.symm)) hb); have n2_ := bbE BK346 hb; have n3_ := bstE HB hb; have BK351 := Aside0.mk (hbox); have GW351 := geE hg HB; have GE351 := geE hg HB; have NB346_351 := nlE hg BK346; have NB351_346 := ngE hg BK346; clear BK346; clear HB; have BK346 := n2_; have HB := n3_; clear n2_ n3_; clear hb hbox hg; have hnb23 := NB351_346.out; have hnc23 := NB346_351.out; obtain ⟨hcz24_0, hcz24_1, hcz24_2, hfz24_0, hfz24_1, hfz24_2⟩ := bc3 BK351.out) | ((with_reducible refine gate_store (t := 32) (p := 6) rfl ?_); refine store_event (t := 32) (p := 6) (v := ?vo_w25) (w1 := (((w22.setCell ⟨gb351, 0, none⟩ (.int .i64 t347)).setCell ⟨gb351, 1, none⟩ (.int .i64 t348)).setCell ⟨gb351, 2, none⟩ (.int .i64 t349))) ?hg ?ho ?hn ?hr ?_; (case ho => rfl); (case hg => rfl); (case hn => rfl); (case hr => first | (go_simp; done) | (go_simp; rfl)); intro w25 hw; replace HO337 := rfE hw HO337 BK351; replace HO341 : Aside0 (Kd.R k32 32 w25 w.heap.size (fun k_ => k_ ≠ gb346 ∧ k_ ≠ gb351) (.slice Ao16 t338.length co16) t338) := ⟨(by rw [hw]; exact (by (with_reducible repeat (first | apply Kd.R_alloc | apply Kd.R_drewN | apply Kd.R_drew)); exact Kd.R_mono (Kd.R_far (p := ⟨gb351, 2, none⟩) (Kd.R_far (p := ⟨gb351, 1, none⟩) (Kd.R_far (p := ⟨gb351, 0, none⟩) (Kd.R_mono HO341.out (fun k_ hk => (⟨hk, hk.2⟩ : _ ∧ k_ ≠ gb351))) (fun _ hk => hk.2) (.int .i64 t347)) (fun _ hk => hk.2) (.int .i64 t348)) (fun _ hk => hk.2) (.int .i64 t349)) (fun _ hk => ⟨hk.1.1, hk.1.2⟩)))⟩; replace BK346 := bfE hw BK346 NB346_351; replace BK351 : Aside0 (w25.heap[gb351]? = some (.cells #[.int .i64 t347, .int .i64 t348, .int .i64 t349] 32 (0, 0))) := ⟨by rw [hw]; apply puts3; exact BK351.out⟩; replace HB := bsE hw HB GE351; clear hw; obtain ⟨hcz26_0, hcz26_1, hcz26_2, hfz26_0, hfz26_1, hfz26_2⟩ := bc3 BK346.out) | (go_at_call 15; (with_reducible refine (place_Owner.calls _ _ t338 24 t352 _ ?side1 ?side2 A9.out).mono ?_); (case side1 => repeat (first | exact (Kd.R_reads' HO341.out).2.2 | (with_reducible refine Kd.C_alloc ?_ _) | (with_reducible refine Kd.C_drewN ?_ _) | (with_reducible refine Kd.C_drew ?_))); (case side2 => exact (Kd.R_reads' HO341.out).2.1); rintro e w27 ⟨rfl, hb⟩; replace HO337 := rbE HO337 hb; replace HO341 := rbE HO341 hb; replace BK346 := bbE BK346 hb; replace BK351 := bbE BK351 hb; replace HB := bstE HB hb; (try clear hb); (try clear hb2); (try clear hk); (try clear hi)) | (go_at_call 15; (with_reducible refine (place_Owner.calls _ _ t338 27 t353 _ ?side1 ?side2 A11.out).mono ?_); (case side1 => repeat (first | exact (Kd.R_reads' HO341.out).2.2 | (with_reducible refine Kd.C_alloc ?_ _) | (with_reducible refine Kd.C_drewN ?_ _) | (with_reducible refine Kd.C_drew ?_))); (case side2 => exact (Kd.R_reads' HO341.out).2.1); rintro e w28 ⟨rfl, hb⟩; replace HO337 := rbE HO337 hb; replace HO341 := rbE HO341 hb; replace BK346 := bbE BK346 hb; replace BK351 := bbE BK351 hb; replace HB := bstE HB hb; (try clear hb); (try clear hb2); (try clear hk); (try clear hi)))
              go_ret
              exact ⟨by first | rfl | (simp [errW_none, errW_some] <;> rfl) | (simp [*, errW_none, errW_some] <;> rfl), by repeat (first | (with_reducible first | exact HB.out | apply below_alloc | apply pw_below_drewN | apply below_drew1 | refine below_set ?_ GE346.out | refine below_set ?_ GE351.out) | exact HB.out)⟩
            rw [if_neg c10] at H
            exact absurd H (by simp)
          rw [if_neg c8] at H
          exact absurd H (by simp)
        rw [if_neg c7] at H
        exact absurd H (by simp)
      rw [if_neg c6] at H
      exact absurd H (by simp)
    rw [if_neg c5] at H
    exact absurd H (by simp)
  rw [if_neg c4] at H
  exact absurd H (by simp)
end Go.Proofs.Ytcbdgknfkoodoaa.F
namespace Go.Proofs.Ytcbdgknfkoodoaa.F
open Go.RowKit Go.Proofs.YtcbdgknfkoodoaaW.PrintWords Go.Proofs.YtcbdgknfkoodoaaW.PrintLast Go.Proofs.YtcbdgknfkoodoaaW.PrintMore
attribute [local go_sem] max2_int min2_int max_two min_two max_three min_three max_four min_four   
set_option linter.unusedVariables false
set_option linter.unusedSimpArgs false
mutual
def crossbarref01_Get.j0 : Nat → List Int → Int → Int → Bool → Option (Int × Int)
  | 0, _, _, _, _ => none
  | k + 1, x0, x1, x2, x19 => if x19 = true then (some (0, 1)) else (if x1 > (x0.length : Int) then (crossbarref01_Get.j1 k x0 x1 x2 true) else (crossbarref01_Get.j1 k x0 x1 x2 (decide ((wrap64 ((x0.length : Int) - x1)) < x2))))
def crossbarref01_Get.j1 : Nat → List Int → Int → Int → Bool → Option (Int × Int)
  | 0, _, _, _, _ => none
  | k + 1, x0, x1, x2, x31 => if x31 = true then (some (0, 2)) else (crossbarref01_Get.l0 k x0 x1 x2 0 0)
def crossbarref01_Get.l0 : Nat → List Int → Int → Int → Int → Int → Option (Int × Int)
  | 0, _, _, _, _, _ => none
  | k + 1, x0, x1, x2, x8, x9 => if x9 < x2 then (if 0 ≤ (wrap64 (x1 + x9)) then (if (wrap64 (x1 + x9)) < (x0.length : Int) then (crossbarref01_Get.l0 k x0 x1 x2 (IntKind.u64.wrap ((IntKind.u64.wrap (256 * x8)) + (IntKind.u64.wrap (rd x0 (wrap64 (x1 + x9)))))) (wrap64 (x9 + 1))) else (none)) else (none)) else (some (x8, 0))
end
def crossbarref01_Get.f (k : Nat) (l0 : List Int) (a1 : Int) (a2 : Int) : Option (Int × Int) := if a2 < 1 then (crossbarref01_Get.j0 k l0 a1 a2 true) else (if a2 > 8 then (crossbarref01_Get.j0 k l0 a1 a2 true) else (crossbarref01_Get.j0 k l0 a1 a2 (decide (a1 < 0))))
theorem crossbarref01_Get.mono_l : ∀ k, (∀ y0 y1 y2 y3, LeO (crossbarref01_Get.j0 k y0 y1 y2 y3) (crossbarref01_Get.j0 (k + 1) y0 y1 y2 y3)) ∧ (∀ y0 y1 y2 y3, LeO (crossbarref01_Get.j1 k y0 y1 y2 y3) (crossbarref01_Get.j1 (k + 1) y0 y1 y2 y3)) ∧ (∀ y0 y1 y2 y3 y4, LeO (crossbarref01_Get.l0 k y0 y1 y2 y3 y4) (crossbarref01_Get.l0 (k + 1) y0 y1 y2 y3 y4))
  | 0 => ⟨fun _ _ _ _ r h => by simp [crossbarref01_Get.j0] at h, fun _ _ _ _ r h => by simp [crossbarref01_Get.j1] at h, fun _ _ _ _ _ r h => by simp [crossbarref01_Get.l0] at h⟩
  | k + 1 => by
    obtain ⟨ih0, ih1, ih2⟩ := crossbarref01_Get.mono_l k
    refine ⟨?_, ?_, ?_⟩
    · intro y0 y1 y2 y3
      unfold crossbarref01_Get.j0
      repeat' first
      | (with_reducible exact ih0 _ _ _ _)
      | (with_reducible exact ih1 _ _ _ _)
      | (with_reducible exact ih2 _ _ _ _ _)
      | (with_reducible exact LeO.refl _)
      | (with_reducible exact LeO.none _)
      | (with_reducible refine LeO.ite ?_ ?_)
      | (with_reducible refine LeO.bind ?_ (fun _ => ?_))
      | exact ih0 _ _ _ _
      | exact ih1 _ _ _ _
      | exact ih2 _ _ _ _ _
      | exact LeO.none _
      | refine LeO.ite ?_ ?_
      | refine LeO.bind ?_ (fun _ => ?_)
    · intro y0 y1 y2 y3
      unfold crossbarref01_Get.j1
      repeat' first
      | (with_reducible exact ih0 _ _ _ _)
      | (with_reducible exact ih1 _ _ _ _)
      | (with_reducible exact ih2 _ _ _ _ _)
      | (with_reducible exact LeO.refl _)
      | (with_reducible exact LeO.none _)
      | (with_reducible refine LeO.ite ?_ ?_)
      | (with_reducible refine LeO.bind ?_ (fun _ => ?_))
      | exact ih0 _ _ _ _
      | exact ih1 _ _ _ _
      | exact ih2 _ _ _ _ _
      | exact LeO.none _
      | refine LeO.ite ?_ ?_
      | refine LeO.bind ?_ (fun _ => ?_)
    intro y0 y1 y2 y3 y4
    unfold crossbarref01_Get.l0
    repeat' first
    | (with_reducible exact ih0 _ _ _ _)
    | (with_reducible exact ih1 _ _ _ _)
    | (with_reducible exact ih2 _ _ _ _ _)
    | (with_reducible exact LeO.refl _)
    | (with_reducible exact LeO.none _)
    | (with_reducible refine LeO.ite ?_ ?_)
    | (with_reducible refine LeO.bind ?_ (fun _ => ?_))
    | exact ih0 _ _ _ _
    | exact ih1 _ _ _ _
    | exact ih2 _ _ _ _ _
    | exact LeO.none _
    | refine LeO.ite ?_ ?_
    | refine LeO.bind ?_ (fun _ => ?_)
theorem crossbarref01_Get.mono : ∀ a0 a1 a2 k, LeO (crossbarref01_Get.f k a0 a1 a2) (crossbarref01_Get.f (k + 1) a0 a1 a2) := by
  intro a0 a1 a2 k
  obtain ⟨ih0, ih1, ih2⟩ := crossbarref01_Get.mono_l k
  unfold crossbarref01_Get.f
  repeat' first
      | (with_reducible exact ih0 _ _ _ _)
      | (with_reducible exact ih1 _ _ _ _)
      | (with_reducible exact ih2 _ _ _ _ _)
      | (with_reducible exact LeO.refl _)
      | (with_reducible exact LeO.none _)
      | (with_reducible refine LeO.ite ?_ ?_)
      | (with_reducible refine LeO.bind ?_ (fun _ => ?_))
      | exact ih0 _ _ _ _
      | exact ih1 _ _ _ _
      | exact ih2 _ _ _ _ _
      | exact LeO.none _
      | refine LeO.ite ?_ ?_
      | refine LeO.bind ?_ (fun _ => ?_)
set_option maxHeartbeats 8000000 in
set_option maxRecDepth 100000 in
theorem crossbarref01_Get.calls (k : Nat) (A0 : Option Addr) (c0 : Nat) (l0 : List Int) (a1 : Int) (a2 : Int) (r1 : Int) (r2 : Int) (w : World) (hr0 : Kd.C (Kd.int .u8) w A0 l0.length l0) (hc0 : l0.length ≤ c0) (h : crossbarref01_Get.f k l0 a1 a2 = some (r1, r2)) :
    Calls Try.prog 55 #[.slice A0 l0.length c0, .int .i64 a1, .int .i64 a2] w fun e w' => e = .returned (.tuple #[.int .u64 r1, .int .i64 r2]) ∧ Drawn0 w w' := by
  have HR0 := Aside0.mk hr0
  have HC0 := Aside0.mk hc0
  clear hr0 hc0
  have H : (if a2 < 1 then (crossbarref01_Get.j0 k l0 a1 a2 true) else (if a2 > 8 then (crossbarref01_Get.j0 k l0 a1 a2 true) else (crossbarref01_Get.j0 k l0 a1 a2 (decide (a1 < 0))))) = some (r1, r2) := h
  clear h
  have HC4 := Aside0.mk H
  clear H
  go_enter Try.func55, Try.ntmps55
  go_upto_region 1 with (fail)
  go_cut [19] (fun v19 wc => ∃ (kq : Nat) (x19_3 : Bool), v19 = .bool x19_3 ∧ Aside0 (crossbarref01_Get.j0 kq l0 a1 a2 x19_3 = some (r1, r2)) ∧ Aside0 (kq ≤ k) ∧ Drawn0 w wc)
  case first =>
    have H := HC4.out
    clear HC4
    by_cases c5 : a2 < 1
    · rw [if_pos c5] at H
      have c5b0 : decide (a2 < 1) = true := decide_eq_true c5
      clear c5
      (first | rw [c5b0] | (simp only [i64_w, i32_w]; rw [c5b0]) | skip)
      have H' := Aside0.mk H
      clear H
      go_wp2
      go_meet
      case rel => exact ⟨_, (true), (by first | rfl | (simp; done) | (simp [*]; done)), H', ⟨by first | omega | exact Nat.le_refl _⟩, by repeat (first | exact Drawn0.refl _ | apply Drawn0.step)⟩
    rw [if_neg c5] at H
    have c5b0 : decide (a2 < 1) = false := decide_eq_false c5
    clear c5
    (first | rw [c5b0] | (simp only [i64_w, i32_w]; rw [c5b0]) | skip)
    by_cases c6 : a2 > 8
    · rw [if_pos c6] at H
      have c6b0 : decide (8 < a2) = true := decide_eq_true c6
      clear c6
      have H' := Aside0.mk H
      clear H
      go_wp2
      go_meet
      case rel => exact ⟨_, (true), (by first | rfl | (simp; done) | (simp [*]; done)), H', ⟨by first | omega | exact Nat.le_refl _⟩, by repeat (first | exact Drawn0.refl _ | apply Drawn0.step)⟩
    rw [if_neg c6] at H
    have c6b0 : decide (8 < a2) = false := decide_eq_false c6
    clear c6
    have H' := Aside0.mk H
    clear H
    go_wp2
    go_meet
    case rel => exact ⟨_, (decide (a1 < 0)), (by first | rfl | (simp; done) | (simp [*]; done)), H', ⟨by first | omega | exact Nat.le_refl _⟩, by repeat (first | exact Drawn0.refl _ | apply Drawn0.step)⟩
  case rest =>
    clear HC4
    try clear p2
    try clear c5
    try clear c5b0
    try clear c6
    try clear c6b0
    obtain ⟨kq, x19_3, rfl, HA, HJ3, ⟨mc3, rfl⟩⟩ := hcut
    cases kq with
    | zero => exact absurd HA.out (by simp [crossbarref01_Get.j0])
    | succ kj3 =>
      have H := HA.out
      clear HA
      simp only [crossbarref01_Get.j0] at H
      by_cases c7 : x19_3 = true
      · subst c7
        have H1 : (some (0, 1)) = some (r1, r2) := by rw [if_pos rfl] at H; exact H
        clear H
        have H := H1
        clear H1
        simp only [Option.some.injEq, Prod.mk.injEq] at H
        obtain ⟨rfl, rfl⟩ := H
        go_wp2
        go_ret2
        exact ⟨by first | rfl | (simp; done) | (simp [*]; done), by repeat (first | exact Drawn0.refl _ | apply Drawn0.step)⟩
      replace c7 := Bool.eq_false_iff.mpr c7
      subst c7
      have H1 : (if a1 > (l0.length : Int) then (crossbarref01_Get.j1 kj3 l0 a1 a2 true) else (crossbarref01_Get.j1 kj3 l0 a1 a2 (decide ((wrap64 ((l0.length : Int) - a1)) < a2)))) = some (r1, r2) := by rw [if_neg (show ¬ (false = true) by decide)] at H; exact H
      clear H
      have H := H1
      clear H1
      have HC8 := Aside0.mk H
      clear H
      go_upto_region 3 with (fail)
      go_cut [31] (fun v31 wc => ∃ (kq : Nat) (x31_7 : Bool), v31 = .bool x31_7 ∧ Aside0 (crossbarref01_Get.j1 kq l0 a1 a2 x31_7 = some (r1, r2)) ∧ Aside0 (kq ≤ kj3) ∧ Drawn0 w wc)
      case first =>
        have H := HC8.out
        clear HC8
        by_cases c9 : a1 > (l0.length : Int)
        · rw [if_pos c9] at H
          have c9b0 : decide ((l0.length : Int) < a1) = true := decide_eq_true c9
          clear c9
          (first | rw [c9b0] | (simp only [i64_w, i32_w]; rw [c9b0]) | skip)
          have H' := Aside0.mk H
          clear H
          go_wp2
          go_meet
          case rel => exact ⟨_, (true), (by first | rfl | (simp; done) | (simp [*]; done)), H', ⟨by have := HJ3.out; first | omega | exact Nat.le_refl _⟩, by repeat (first | exact Drawn0.refl _ | apply Drawn0.step)⟩
        rw [if_neg c9] at H
        have c9b0 : decide ((l0.length : Int) < a1) = false := decide_eq_false c9
        clear c9
        (first | rw [c9b0] | (simp only [i64_w, i32_w]; rw [c9b0]) | skip)
        have H' := Aside0.mk H
        clear H
        go_wp2
        go_meet
        case rel => exact ⟨_, (decide ((wrap64 ((l0.length : Int) - a1)) < a2)), (by first | rfl | (simp; done) | (simp [*]; done)), H', ⟨by have := HJ3.out; first | omega | exact Nat.le_refl _⟩, by repeat (first | exact Drawn0.refl _ | apply Drawn0.step)⟩
      case rest =>
        clear HC8
        try clear p2
        try clear c3
        try clear c5
        try clear c5b0
        try clear c6
        try clear c6b0
        try clear p6
        try clear c7
        try clear c9
        try clear c9b0
        try clear p2
        obtain ⟨kq, x31_7, rfl, HA, HJ7, ⟨mc7, rfl⟩⟩ := hcut
        cases kq with
        | zero => exact absurd HA.out (by simp [crossbarref01_Get.j1])
        | succ kj7 =>
          have H := HA.out
          clear HA
          simp only [crossbarref01_Get.j1] at H
          by_cases c10 : x31_7 = true
          · subst c10
            have H1 : (some (0, 2)) = some (r1, r2) := by rw [if_pos rfl] at H; exact H
            clear H
            have H := H1
            clear H1
            simp only [Option.some.injEq, Prod.mk.injEq] at H
            obtain ⟨rfl, rfl⟩ := H
            go_wp2
            go_ret2
            exact ⟨by first | rfl | (simp; done) | (simp [*]; done), by repeat (first | exact Drawn0.refl _ | apply Drawn0.step)⟩
          replace c10 := Bool.eq_false_iff.mpr c10
          subst c10
          have H1 : (crossbarref01_Get.l0 kj7 l0 a1 a2 0 0) = some (r1, r2) := by rw [if_neg (show ¬ (false = true) by decide)] at H; exact H
          clear H
          have H := H1
          clear H1
          have H' := Aside0.mk H
          clear H
          go_wp2
          go_loopg [8, 9] kj7 (fun kq v8 v9 w' => ∃ (x8_3 : Int) (x9_3 : Int), v8 = .int .u64 x8_3 ∧ v9 = .int .i64 x9_3 ∧ Aside0 (crossbarref01_Get.l0 kq l0 a1 a2 x8_3 x9_3 = some (r1, r2)) ∧ Aside0 (kq ≤ kj7) ∧ Drawn0 w w')
          case atStart => exact ⟨(0), (0), (by first | rfl | (simp; done) | (simp [*]; done)), (by first | rfl | (simp; done) | (simp [*]; done)), H', ⟨Nat.le_refl _⟩, by repeat (first | exact Drawn0.refl _ | apply Drawn0.step)⟩
          case round =>
            clear H'
            try clear c1
            try clear p2
            try clear c3
            try clear c5
            try clear c5b0
            try clear c6
            try clear c6b0
            try clear p6
            try clear c7
            try clear c9
            try clear c9b0
            try clear c10
            try clear p2
            try clear p6
            obtain ⟨x8_3, x9_3, rfl, rfl, HA, HK3, ⟨m3, rfl⟩⟩ := hrel
            cases gk with
            | zero => exact absurd HA.out (by simp [crossbarref01_Get.l0])
            | succ k3 =>
              have H := HA.out
              clear HA
              simp only [crossbarref01_Get.l0] at H
              by_cases c11 : x9_3 < a2
              · rw [if_pos c11] at H
                have c11b0 : decide (x9_3 < a2) = true := decide_eq_true c11
                clear c11
                obtain ⟨ji12, hji12⟩ : ∃ j_ : Int, (wrap64 (a1 + x9_3)) = j_ := ⟨_, rfl⟩
                replace H : (if 0 ≤ (ji12) then (if (ji12) < (l0.length : Int) then (crossbarref01_Get.l0 k3 l0 a1 a2 (IntKind.u64.wrap ((IntKind.u64.wrap (256 * x8_3)) + (IntKind.u64.wrap (rd l0 (ji12))))) (wrap64 (x9_3 + 1))) else (none)) else (none)) = some (r1, r2) := by first | (rw [hji12] at H; exact H) | (simp only [hji12] at H ⊢; exact H)
                have hji12w : (IntKind.i64.wrap (a1 + x9_3)) = ji12 := (i64_w _).trans hji12
                by_cases c13 : 0 ≤ (ji12)
                · rw [if_pos c13] at H
                  have c13b0 : decide (0 ≤ (ji12)) = true := decide_eq_true c13
                  clear c13
                  by_cases c14 : (ji12) < (l0.length : Int)
                  · rw [if_pos c14] at H
                    have c14b0 : decide ((ji12) < (l0.length : Int)) = true := decide_eq_true c14
                    clear c14
                    have H' := Aside0.mk H
                    clear H
                    have p354 : 0 ≤ ((ji12) : Int) := of_decide_eq_true (by first | (with_reducible assumption) | assumption)
                    have q354 : (ji12) < (l0.length : Int) := of_decide_eq_true (by first | (with_reducible assumption) | assumption)
                    obtain ⟨ad354, e354, hx354_0⟩ := Kd.at_int HR0.out (ji12) p354 q354
                    cases e354
                    replace p354 := eq_true p354
                    replace q354 := eq_true q354
                    go_wp2
                    go_roundg k3
                    case measure => have := HJ3.out; have := HJ7.out; have := HK3.out; omega
                    case rel => exact ⟨(IntKind.u64.wrap ((IntKind.u64.wrap (256 * x8_3)) + (IntKind.u64.wrap (rd l0 (ji12))))), (wrap64 (x9_3 + 1)), (by first | rfl | (simp; done) | (simp only [← hji12] <;> (first | rfl | simp)) | (simp [*]; done)), (by first | rfl | (simp; done) | (simp [*]; done)), H', ⟨by have := HJ3.out; have := HJ7.out; have := HK3.out; omega⟩, by repeat (first | exact Drawn0.refl _ | apply Drawn0.step)⟩
                  rw [if_neg c14] at H
                  exact absurd H (by simp)
                rw [if_neg c13] at H
                exact absurd H (by simp)
              rw [if_neg c11] at H
              have c11b0 : decide (x9_3 < a2) = false := decide_eq_false c11
              clear c11
              simp only [Option.some.injEq, Prod.mk.injEq] at H
              obtain ⟨rfl, rfl⟩ := H
              go_wp2
              go_ret2
              exact ⟨by first | rfl | (simp; done) | (simp [*]; done), by repeat (first | exact Drawn0.refl _ | apply Drawn0.step)⟩
end Go.Proofs.Ytcbdgknfkoodoaa.F
namespace Go.Proofs.Ytcbdgknfkoodoaa.F
open Go.RowKit Go.Proofs.YtcbdgknfkoodoaaW.PrintWords Go.Proofs.YtcbdgknfkoodoaaW.PrintLast Go.Proofs.YtcbdgknfkoodoaaW.PrintMore
attribute [local go_sem] max2_int min2_int max_two min_two max_three min_three max_four min_four   
set_option linter.unusedVariables false
set_option linter.unusedSimpArgs false
def crossbarref05_Num.f (k : Nat) (l0 : List Int) (a1 : Int) (a2 : Int) : Option (Int) := (crossbarref01_Get.f k l0 a1 a2).bind fun bt355 => (some ((bt355.1) % 4294967296))
theorem crossbarref05_Num.mono : ∀ a0 a1 a2 k, LeO (crossbarref05_Num.f k a0 a1 a2) (crossbarref05_Num.f (k + 1) a0 a1 a2) := by
  intro a0 a1 a2 k
  unfold crossbarref05_Num.f
  repeat' first
      | (with_reducible exact crossbarref01_Get.mono _ _ _ _)
      | (with_reducible exact LeO.refl _)
      | (with_reducible exact LeO.none _)
      | (with_reducible refine LeO.ite ?_ ?_)
      | (with_reducible refine LeO.bind ?_ (fun _ => ?_))
      | exact crossbarref01_Get.mono _ _ _ _
      | exact LeO.none _
      | refine LeO.ite ?_ ?_
      | refine LeO.bind ?_ (fun _ => ?_)
set_option maxHeartbeats 8000000 in
set_option maxRecDepth 100000 in
theorem crossbarref05_Num.calls (k : Nat) (A0 : Option Addr) (c0 : Nat) (l0 : List Int) (a1 : Int) (a2 : Int) (r : Int) (w : World) (hr0 : Kd.C (Kd.int .u8) w A0 l0.length l0) (hc0 : l0.length ≤ c0) (h : crossbarref05_Num.f k l0 a1 a2 = some r) :
    Calls Try.prog 43 #[.slice A0 l0.length c0, .int .i64 a1, .int .i64 a2] w fun e w' => e = .returned (.int .u32 r) ∧ Drawn0 w w' := by
  have HR0 := Aside0.mk hr0
  have HC0 := Aside0.mk hc0
  clear hr0 hc0
  have H : ((crossbarref01_Get.f k l0 a1 a2).bind fun bt355 => (some ((bt355.1) % 4294967296))) = some r := h
  clear h
  replace H := Option.bind_eq_some_iff.mp H
  obtain ⟨⟨t355, t356⟩, A40, H⟩ := H
  replace H : (some ((t355) % 4294967296)) = some r := H
  have A4 := Aside0.mk A40
  clear A40
  obtain rfl := Option.some.inj H
  go_enter Try.func43, Try.ntmps43
  go_wp2_with (first | ((with_reducible refine gate_callee (f := 55) rfl ?_); refine goesL_ (some 13) rfl rfl Try.func55 (by kernel_rfl) rfl #[.slice A0 l0.length c0, .int .i64 a1, .int .i64 a2] rfl (by (try simp only [List.map_toArray, List.map_cons, List.map_nil]); first | done | rfl | (simp only [List.length_drop, List.length_take]; rfl)) ?_; (with_reducible refine (crossbarref01_Get.calls k _ _ l0 a1 a2 t355 t356 _ ?side1 ?side2 A4.out).mono ?_); (case side1 => repeat (first | exact HR0.out | (with_reducible refine Kd.C_alloc ?_ _) | (with_reducible refine Kd.C_drewN ?_ _) | (with_reducible refine Kd.C_drew ?_))); (case side2 => exact HC0.out); rintro e w' ⟨rfl, ⟨nd, rfl⟩⟩; refine ⟨_, rfl, ?_⟩))
  go_ret
  exact ⟨by first | rfl | (simp; done) | (simp [*]; done), by repeat (first | exact Drawn0.refl _ | apply Drawn0.step)⟩
end Go.Proofs.Ytcbdgknfkoodoaa.F
namespace Go.Proofs.Ytcbdgknfkoodoaa.F
open Go.RowKit Go.Proofs.YtcbdgknfkoodoaaW.PrintWords Go.Proofs.YtcbdgknfkoodoaaW.PrintLast Go.Proofs.YtcbdgknfkoodoaaW.PrintMore
attribute [local go_sem] max2_int min2_int max_two min_two max_three min_three max_four min_four   
set_option linter.unusedVariables false
set_option linter.unusedSimpArgs false
def crossbarref05_Read.l0 : Nat → List Int → Int → Int → Bool → Bool → Bool → Int → Int → Int → Int → List Int → Option (Bool × Bool × Bool × Int × Int × Int × Int × List Int × Int × Int)
  | 0, _, _, _, _, _, _, _, _, _, _, _ => none
  | k + 1, x0, x5, x7, x363000, x363001, x363002, x363003, x363004, x363005, x363006, x363007 => if x7 < x5 then ((crossbarref05_Num.f k x0 (wrap64 (12 + (wrap64 (4 * x7)))) 4).bind fun t368 => (if x363007.length < 35184372088832 then (crossbarref05_Read.l0 k x0 x5 (wrap64 (x7 + 1)) x363000 x363001 x363002 x363003 x363004 x363005 x363006 (x363007 ++ [t368])) else (none))) else (some (x363000, x363001, x363002, x363003, x363004, x363005, x363006, x363007, wrap64 (12 + (wrap64 (4 * x5))), 0))
def crossbarref05_Read.f (k : Nat) (l0 : List Int) : Option (Bool × Bool × Bool × Int × Int × Int × Int × List Int × Int × Int) := if (l0.length : Int) < 12 then (some (false, false, false, 0, 0, 0, 0, ([] : List Int), 0, 2)) else (if 0 < (l0.length : Int) then (if ((Int.tdiv (rd l0 0) 64) % 256) = 2 then (if (l0.length : Int) < (wrap64 (12 + (wrap64 (4 * (wrap64 (Int.tmod (rd l0 0) 16)))))) then (some (false, false, false, 0, 0, 0, 0, ([] : List Int), 0, 2)) else (if 1 < (l0.length : Int) then ((crossbarref05_Num.f k l0 2 2).bind fun t365 => ((crossbarref05_Num.f k l0 4 4).bind fun t366 => ((crossbarref05_Num.f k l0 8 4).bind fun t367 => (crossbarref05_Read.l0 k l0 (wrap64 (Int.tmod (rd l0 0) 16)) 0 ((((Int.tdiv (rd l0 0) 32) % 256) % 2) == 1) ((((Int.tdiv (rd l0 0) 16) % 256) % 2) == 1) (decide ((rd l0 1) ≥ 128)) (wrap64 (Int.tmod (rd l0 1) 128)) (IntKind.u16.wrap (t365)) t366 t367 ([] : List Int))))) else (none))) else (some (false, false, false, 0, 0, 0, 0, ([] : List Int), 0, 3))) else (none))
theorem crossbarref05_Read.mono_l : ∀ k, (∀ y0 y1 y2 y3 y4 y5 y6 y7 y8 y9 y10, LeO (crossbarref05_Read.l0 k y0 y1 y2 y3 y4 y5 y6 y7 y8 y9 y10) (crossbarref05_Read.l0 (k + 1) y0 y1 y2 y3 y4 y5 y6 y7 y8 y9 y10))
  | 0 => fun _ _ _ _ _ _ _ _ _ _ _ r h => by simp [crossbarref05_Read.l0] at h
  | k + 1 => by
    have ih0 := crossbarref05_Read.mono_l k
    intro y0 y1 y2 y3 y4 y5 y6 y7 y8 y9 y10
    unfold crossbarref05_Read.l0
    repeat' first
    | (with_reducible exact ih0 _ _ _ _ _ _ _ _ _ _ _)
    | (with_reducible exact crossbarref05_Num.mono _ _ _ _)
    | (with_reducible exact LeO.refl _)
    | (with_reducible exact LeO.none _)
    | (with_reducible refine LeO.ite ?_ ?_)
    | (with_reducible refine LeO.bind ?_ (fun _ => ?_))
    | exact ih0 _ _ _ _ _ _ _ _ _ _ _
    | exact crossbarref05_Num.mono _ _ _ _
    | exact LeO.none _
    | refine LeO.ite ?_ ?_
    | refine LeO.bind ?_ (fun _ => ?_)
theorem crossbarref05_Read.mono : ∀ a0 k, LeO (crossbarref05_Read.f k a0) (crossbarref05_Read.f (k + 1) a0) := by
  intro a0 k
  have ih0 := crossbarref05_Read.mono_l k
  unfold crossbarref05_Read.f
  repeat' first
      | (with_reducible exact ih0 _ _ _ _ _ _ _ _ _ _ _)
      | (with_reducible exact crossbarref05_Num.mono _ _ _ _)
      | (with_reducible exact LeO.refl _)
      | (with_reducible exact LeO.none _)
      | (with_reducible refine LeO.ite ?_ ?_)
      | (with_reducible refine LeO.bind ?_ (fun _ => ?_))
      | exact ih0 _ _ _ _ _ _ _ _ _ _ _
      | exact crossbarref05_Num.mono _ _ _ _
      | exact LeO.none _
      | refine LeO.ite ?_ ?_
      | refine LeO.bind ?_ (fun _ => ?_)
def crossbarref05_Read.T8 : Bool × List (List Nat × List Nat) := (true, [([], []), ([0], [0]), ([1], [1]), ([2], [2]), ([3], [3]), ([], []), ([5], [5]), ([6], [6]), ([7], [7]), ([4, 8], [4, 8]), ([], []), ([10, 9, 0, 1, 2, 3, 4, 5, 6, 7, 8, 9, 10], [9, 10])])
def crossbarref05_Read.B8 : List Nat := [0, 1, 3, 7, 15, 0, 32, 96, 224, 511, 0, 2047]
theorem crossbarref05_Read.tab8 : rtab .any (opsOf Try.f42 8) = crossbarref05_Read.T8 := by kernel_rfl
theorem crossbarref05_Read.bits8 : waitsOk crossbarref05_Read.T8.2 crossbarref05_Read.B8 = true := by kernel_rfl
def crossbarref05_Read.T17 : Bool × List (List Nat × List Nat) := (true, [([], []), ([0], [0]), ([], []), ([], []), ([3], [3]), ([4], [4]), ([2, 5], [2, 5]), ([6], [6]), ([1, 7, 6], [1, 7]), ([0, 1, 2, 3, 4, 5, 6, 7, 8], []), ([9, 8, 8, 0, 1, 2, 3, 4, 5, 6, 7, 8], [8, 9])])
def crossbarref05_Read.B17 : List Nat := [0, 1, 0, 0, 8, 24, 60, 124, 255, 511, 1023]
theorem crossbarref05_Read.tab17 : rtab .any (opsOf Try.f42 17) = crossbarref05_Read.T17 := by kernel_rfl
theorem crossbarref05_Read.bits17 : waitsOk crossbarref05_Read.T17.2 crossbarref05_Read.B17 = true := by kernel_rfl
set_option maxHeartbeats 8000000 in
set_option maxRecDepth 100000 in
theorem crossbarref05_Read.calls (k : Nat) (A0 : Option Addr) (c0 : Nat) (l0 : List Int) (r1 : Bool) (r2 : Bool) (r3 : Bool) (r4 : Int) (r5 : Int) (r6 : Int) (r7 : Int) (r8 : List Int) (r9 : Int) (r10 : Int) (w : World) (hr0 : Kd.C (Kd.int .u8) w A0 l0.length l0) (hc0 : l0.length ≤ c0) (h : crossbarref05_Read.f k l0 = some (r1, r2, r3, r4, r5, r6, r7, r8, r9, r10)) :
    Calls Try.prog 42 #[.slice A0 l0.length c0] w fun e w' => ∃ v7_ : Value, e = .returned (.tuple #[.agg #[.bool r1, .bool r2, .bool r3, .int .i64 r4, .int .u16 r5, .int .u32 r6, .int .u32 r7, v7_], .int .i64 r9, .int .i64 r10]) ∧ Kd.R (Kd.int .u32) 40 w' w.heap.size (fun _ => True) v7_ r8 ∧ Below w.heap.size w w' := by
  have hu43 := Try.underlying43
  have HR0 := Aside0.mk hr0
  have HC0 := Aside0.mk hc0
  clear hr0 hc0
  have HB := Aside0.mk (Below.refl w.heap.size w)
  have H : (if (l0.length : Int) < 12 then (some (false, false, false, 0, 0, 0, 0, ([] : List Int), 0, 2)) else (if 0 < (l0.length : Int) then (if ((Int.tdiv (rd l0 0) 64) % 256) = 2 then (if (l0.length : Int) < (wrap64 (12 + (wrap64 (4 * (wrap64 (Int.tmod (rd l0 0) 16)))))) then (some (false, false, false, 0, 0, 0, 0, ([] : List Int), 0, 2)) else (if 1 < (l0.length : Int) then ((crossbarref05_Num.f k l0 2 2).bind fun t365 => ((crossbarref05_Num.f k l0 4 4).bind fun t366 => ((crossbarref05_Num.f k l0 8 4).bind fun t367 => (crossbarref05_Read.l0 k l0 (wrap64 (Int.tmod (rd l0 0) 16)) 0 ((((Int.tdiv (rd l0 0) 32) % 256) % 2) == 1) ((((Int.tdiv (rd l0 0) 16) % 256) % 2) == 1) (decide ((rd l0 1) ≥ 128)) (wrap64 (Int.tmod (rd l0 1) 128)) (IntKind.u16.wrap (t365)) t366 t367 ([] : List Int))))) else (none))) else (some (false, false, false, 0, 0, 0, 0, ([] : List Int), 0, 3))) else (none))) = some (r1, r2, r3, r4, r5, r6, r7, r8, r9, r10) := h
  clear h
  by_cases c2 : (l0.length : Int) < 12
  · rw [if_pos c2] at H
    have c2b0 : decide ((l0.length : Int) < 12) = true := decide_eq_true c2
    have c2b1 : decide (l0.length < 12) = true := decide_eq_true (by omega)
    clear c2
    simp only [Option.some.injEq, Prod.mk.injEq] at H
    obtain ⟨rfl, rfl, rfl, rfl, rfl, rfl, rfl, rfl, rfl, rfl⟩ := H
    go_enter Try.func42, Try.ntmps42
    go_wp2_with (first | ((with_reducible refine gate_dst (N := 2) rfl ?_); refine box_event ?hg (N := 2) ?hd (cs := #[.bool false, .bool false, .bool false, .int .i64 0, .int .u16 0, .int .u32 0, .int .u32 0, .slice none 0 0]) (t := 43) ?hr ?_; (case hd => rfl); (case hg => rfl); (case hr => first | (go_simp; done) | (go_simp; rfl)); intro gb357 hg w3 hbox hb; have n0_ := bstE HB hb; have BK357 := Aside0.mk (hbox); have GW357 := geE hg HB; have GE357 := geE hg HB; clear HB; have HB := n0_; clear n0_; clear hb hbox hg; obtain ⟨hcz4_0, hcz4_1, hcz4_2, hcz4_3, hcz4_4, hcz4_5, hcz4_6, hcz4_7, hfz4_0, hfz4_1, hfz4_2, hfz4_3, hfz4_4, hfz4_5, hfz4_6, hfz4_7⟩ := bc8 BK357.out) | ((with_reducible refine gate_store (t := 43) (p := 2) rfl ?_); refine store_event (t := 43) (p := 2) (v := ?vo_w5) (w1 := ((((((((w3.setCell ⟨gb357, 0, none⟩ (.bool false)).setCell ⟨gb357, 1, none⟩ (.bool false)).setCell ⟨gb357, 2, none⟩ (.bool false)).setCell ⟨gb357, 3, none⟩ (.int .i64 0)).setCell ⟨gb357, 4, none⟩ (.int .u16 0)).setCell ⟨gb357, 5, none⟩ (.int .u32 0)).setCell ⟨gb357, 6, none⟩ (.int .u32 0)).setCell ⟨gb357, 7, none⟩ (.slice none 0 0))) ?hg ?ho ?hn ?hr ?_; (case ho => rfl); (case hg => rfl); (case hn => rfl); (case hr => first | (go_simp; done) | (go_simp; rfl)); intro w5 hw; replace BK357 : Aside0 (w5.heap[gb357]? = some (.cells #[.bool false, .bool false, .bool false, .int .i64 0, .int .u16 0, .int .u32 0, .int .u32 0, .slice none 0 0] 43 (0, 0))) := ⟨by rw [hw]; apply puts8; exact BK357.out⟩; replace HB := bsE hw HB GE357; clear hw))
    refine bodyPost_ret (results_ctt rfl _ _ gb357 43 #[.bool false, .bool false, .bool false, .int .i64 0, .int .u16 0, .int .u32 0, .int .u32 0, .slice none 0 0] (0, 0) _ rfl (pk BK357) Try.underlying43 rfl (by kernel_rfl)) rfl ?_
    exact ⟨_, by first | rfl | (simp [errW_none, errW_some] <;> rfl) | (simp [*, errW_none, errW_some] <;> rfl), by first | exact Kd.R_nil _ _ _ _ _ | exact Kd.N_nil _ _ _ _ _ | exact Kd.V_nil _ _ _ _ _ | exact Kd.Q_nil _ _ _ _ _ | exact Kd.S_nil _ _ _ _ _, by repeat (first | (with_reducible first | exact HB.out | apply below_alloc | apply pw_below_drewN | apply below_drew1 | refine below_set ?_ GE357.out) | exact HB.out)⟩
  rw [if_neg c2] at H
  have c2b0 : decide ((l0.length : Int) < 12) = false := decide_eq_false c2
  have c2b1 : decide (l0.length < 12) = false := decide_eq_false (by omega)
  clear c2
  by_cases c6 : 0 < (l0.length : Int)
  · rw [if_pos c6] at H
    have c6b0 : decide (0 < (l0.length : Int)) = true := decide_eq_true c6
    have c6b1 : decide (0 < l0.length) = true := decide_eq_true (by omega)
    clear c6
    by_cases c7 : ((Int.tdiv (rd l0 0) 64) % 256) = 2
    · rw [if_pos c7] at H
      have c7b0 : (((Int.tdiv (rd l0 0) 64) % 256) == 2) = true := beq_iff_eq.mpr c7
      have c7b1 : (((Int.tdiv (rd l0 0) 64) % 256) != 2) = false := bne_eq_false_iff_eq.mpr c7
      clear c7
      by_cases c8 : (l0.length : Int) < (wrap64 (12 + (wrap64 (4 * (wrap64 (Int.tmod (rd l0 0) 16))))))
      · rw [if_pos c8] at H
        have c8b0 : decide ((l0.length : Int) < (wrap64 (12 + (wrap64 (4 * (wrap64 (Int.tmod (rd l0 0) 16))))))) = true := decide_eq_true c8
        clear c8
        simp only [Option.some.injEq, Prod.mk.injEq] at H
        obtain ⟨rfl, rfl, rfl, rfl, rfl, rfl, rfl, rfl, rfl, rfl⟩ := H
        go_enter Try.func42, Try.ntmps42
        go_wp2_with (first | ((with_reducible refine gate_dst (N := 2) rfl ?_); refine box_event ?hg (N := 2) ?hd (cs := #[.bool false, .bool false, .bool false, .int .i64 0, .int .u16 0, .int .u32 0, .int .u32 0, .slice none 0 0]) (t := 43) ?hr ?_; (case hd => rfl); (case hg => rfl); (case hr => first | (go_simp; done) | (go_simp; rfl)); intro gb357 hg w9 hbox hb; have n0_ := bstE HB hb; have BK357 := Aside0.mk (hbox); have GW357 := geE hg HB; have GE357 := geE hg HB; clear HB; have HB := n0_; clear n0_; clear hb hbox hg; have p358 : 0 ≤ (0 : Int) := (by omega); have q358 : 0 < (l0.length : Int) := of_decide_eq_true (by first | (with_reducible assumption) | assumption); obtain ⟨ad358, e358, hx358_0⟩ := Kd.at_int HR0.out 0 p358 q358; cases e358; have qi358 : (0 < l0.length) = True := eq_true (by omega); (try rw [show ((0 : Int)).toNat = 0 from rfl] at hx358_0); (try rw [Addr.add_zero'] at hx358_0); replace hx358_0 := (HB.out.cell (World.block_lt_of_cell? w _ hx358_0)).trans hx358_0; replace p358 := eq_true p358; replace q358 := eq_true q358; have p359 : 0 ≤ (0 : Int) := (by omega); have q359 : 0 < (l0.length : Int) := of_decide_eq_true (by first | (with_reducible assumption) | assumption); obtain ⟨ad359, e359, hx359_0⟩ := Kd.at_int HR0.out 0 p359 q359; obtain rfl : ad358 = ad359 := (by injection e359); have qi359 : (0 < l0.length) = True := eq_true (by omega); (try rw [show ((0 : Int)).toNat = 0 from rfl] at hx359_0); (try rw [Addr.add_zero'] at hx359_0); replace hx359_0 := (HB.out.cell (World.block_lt_of_cell? w _ hx359_0)).trans hx359_0; replace p359 := eq_true p359; replace q359 := eq_true q359; obtain ⟨hcz10_0, hcz10_1, hcz10_2, hcz10_3, hcz10_4, hcz10_5, hcz10_6, hcz10_7, hfz10_0, hfz10_1, hfz10_2, hfz10_3, hfz10_4, hfz10_5, hfz10_6, hfz10_7⟩ := bc8 BK357.out) | ((with_reducible refine gate_store (t := 43) (p := 2) rfl ?_); refine store_event (t := 43) (p := 2) (v := ?vo_w11) (w1 := ((((((((w9.setCell ⟨gb357, 0, none⟩ (.bool false)).setCell ⟨gb357, 1, none⟩ (.bool false)).setCell ⟨gb357, 2, none⟩ (.bool false)).setCell ⟨gb357, 3, none⟩ (.int .i64 0)).setCell ⟨gb357, 4, none⟩ (.int .u16 0)).setCell ⟨gb357, 5, none⟩ (.int .u32 0)).setCell ⟨gb357, 6, none⟩ (.int .u32 0)).setCell ⟨gb357, 7, none⟩ (.slice none 0 0))) ?hg ?ho ?hn ?hr ?_; (case ho => rfl); (case hg => rfl); (case hn => rfl); (case hr => first | (go_simp; done) | (go_simp; rfl)); intro w11 hw; replace BK357 : Aside0 (w11.heap[gb357]? = some (.cells #[.bool false, .bool false, .bool false, .int .i64 0, .int .u16 0, .int .u32 0, .int .u32 0, .slice none 0 0] 43 (0, 0))) := ⟨by rw [hw]; apply puts8; exact BK357.out⟩; replace HB := bsE hw HB GE357; clear hw))
        refine bodyPost_ret (results_ctt rfl _ _ gb357 43 #[.bool false, .bool false, .bool false, .int .i64 0, .int .u16 0, .int .u32 0, .int .u32 0, .slice none 0 0] (0, 0) _ rfl (pk BK357) Try.underlying43 rfl (by kernel_rfl)) rfl ?_
        exact ⟨_, by first | rfl | (simp [errW_none, errW_some] <;> rfl) | (simp [*, errW_none, errW_some] <;> rfl), by first | exact Kd.R_nil _ _ _ _ _ | exact Kd.N_nil _ _ _ _ _ | exact Kd.V_nil _ _ _ _ _ | exact Kd.Q_nil _ _ _ _ _ | exact Kd.S_nil _ _ _ _ _, by repeat (first | (with_reducible first | exact HB.out | apply below_alloc | apply pw_below_drewN | apply below_drew1 | refine below_set ?_ GE357.out) | exact HB.out)⟩
      rw [if_neg c8] at H
      have c8b0 : decide ((l0.length : Int) < (wrap64 (12 + (wrap64 (4 * (wrap64 (Int.tmod (rd l0 0) 16))))))) = false := decide_eq_false c8
      clear c8
      by_cases c12 : 1 < (l0.length : Int)
      · rw [if_pos c12] at H
        have c12b0 : decide (1 < (l0.length : Int)) = true := decide_eq_true c12
        have c12b1 : decide (1 < l0.length) = true := decide_eq_true (by omega)
        clear c12
        replace H := Option.bind_eq_some_iff.mp H
        obtain ⟨t365, A130, H⟩ := H
        replace H : ((crossbarref05_Num.f k l0 4 4).bind fun t366 => ((crossbarref05_Num.f k l0 8 4).bind fun t367 => (crossbarref05_Read.l0 k l0 (wrap64 (Int.tmod (rd l0 0) 16)) 0 ((((Int.tdiv (rd l0 0) 32) % 256) % 2) == 1) ((((Int.tdiv (rd l0 0) 16) % 256) % 2) == 1) (decide ((rd l0 1) ≥ 128)) (wrap64 (Int.tmod (rd l0 1) 128)) (IntKind.u16.wrap (t365)) t366 t367 ([] : List Int)))) = some (r1, r2, r3, r4, r5, r6, r7, r8, r9, r10) := H
        have A13 := Aside0.mk A130
        clear A130
        replace H := Option.bind_eq_some_iff.mp H
        obtain ⟨t366, A140, H⟩ := H
        replace H : ((crossbarref05_Num.f k l0 8 4).bind fun t367 => (crossbarref05_Read.l0 k l0 (wrap64 (Int.tmod (rd l0 0) 16)) 0 ((((Int.tdiv (rd l0 0) 32) % 256) % 2) == 1) ((((Int.tdiv (rd l0 0) 16) % 256) % 2) == 1) (decide ((rd l0 1) ≥ 128)) (wrap64 (Int.tmod (rd l0 1) 128)) (IntKind.u16.wrap (t365)) t366 t367 ([] : List Int))) = some (r1, r2, r3, r4, r5, r6, r7, r8, r9, r10) := H
        have A14 := Aside0.mk A140
        clear A140
        replace H := Option.bind_eq_some_iff.mp H
        obtain ⟨t367, A150, H⟩ := H
        replace H : (crossbarref05_Read.l0 k l0 (wrap64 (Int.tmod (rd l0 0) 16)) 0 ((((Int.tdiv (rd l0 0) 32) % 256) % 2) == 1) ((((Int.tdiv (rd l0 0) 16) % 256) % 2) == 1) (decide ((rd l0 1) ≥ 128)) (wrap64 (Int.tmod (rd l0 1) 128)) (IntKind.u16.wrap (t365)) t366 t367 ([] : List Int)) = some (r1, r2, r3, r4, r5, r6, r7, r8, r9, r10) := H
        have A15 := Aside0.mk A150
        clear A150
        have H' := Aside0.mk H
        clear H
        go_enter Try.func42, Try.ntmps42
        try go_wp2_with (first | ((with_reducible refine gate_dst (N := 2) rfl ?_); refine box_event ?hg (N := 2) ?hd (cs := #[.bool false, .bool false, .bool false, .int .i64 0, .int .u16 0, .int .u32 0, .int .u32 0, .slice none 0 0]) (t := 43) ?hr ?_; (case hd => rfl); (case hg => rfl); (case hr => first | (go_simp; done) | (go_simp; rfl)); intro gb357 hg w16 hbox hb; have n0_ := bstE HB hb; have BK357 := Aside0.mk (hbox); have GW357 := geE hg HB; have GE357 := geE hg HB; clear HB; have HB := n0_; clear n0_; clear hb hbox hg; have p358 : 0 ≤ (0 : Int) := (by omega); have q358 : 0 < (l0.length : Int) := of_decide_eq_true (by first | (with_reducible assumption) | assumption); obtain ⟨ad358, e358, hx358_0⟩ := Kd.at_int HR0.out 0 p358 q358; cases e358; have qi358 : (0 < l0.length) = True := eq_true (by omega); (try rw [show ((0 : Int)).toNat = 0 from rfl] at hx358_0); (try rw [Addr.add_zero'] at hx358_0); replace hx358_0 := (HB.out.cell (World.block_lt_of_cell? w _ hx358_0)).trans hx358_0; replace p358 := eq_true p358; replace q358 := eq_true q358; have p359 : 0 ≤ (0 : Int) := (by omega); have q359 : 0 < (l0.length : Int) := of_decide_eq_true (by first | (with_reducible assumption) | assumption); obtain ⟨ad359, e359, hx359_0⟩ := Kd.at_int HR0.out 0 p359 q359; obtain rfl : ad358 = ad359 := (by injection e359); have qi359 : (0 < l0.length) = True := eq_true (by omega); (try rw [show ((0 : Int)).toNat = 0 from rfl] at hx359_0); (try rw [Addr.add_zero'] at hx359_0); replace hx359_0 := (HB.out.cell (World.block_lt_of_cell? w _ hx359_0)).trans hx359_0; replace p359 := eq_true p359; replace q359 := eq_true q359))
        replace BK357 := Aside0.mk (blk_drew BK357.out)
        replace HB := Aside0.mk (below_drew1 HB.out)
        have p360 : 0 ≤ (1 : Int) := (by omega)
        have q360 : 1 < (l0.length : Int) := of_decide_eq_true (by first | (with_reducible assumption) | assumption)
        obtain ⟨ad360, e360, hx360_0⟩ := Kd.at_int HR0.out 1 p360 q360
        have hw360_0 := hx360_0
        (try rw [show ((1 : Int)).toNat = 1 from rfl] at hw360_0)
        (try rw [show 1 * 1 = 1 from rfl] at hw360_0)
        (try simp only [Nat.reduceMul, Nat.reduceEqDiff, Go.Addr.add, ↓reduceIte] at hw360_0)
        obtain rfl : ad358 = ad360 := (by injection e360)
        (try simp only [show (1 : Int).toNat = 1 from rfl, Nat.reduceMul, Nat.reduceEqDiff, Go.Addr.add, ↓reduceIte] at hx360_0)
        have qi360 : (1 < l0.length) = True := eq_true (by omega)
        (try rw [show ((1 : Int)).toNat = 1 from rfl] at hx360_0)
        replace hx360_0 := (HB.out.cell (World.block_lt_of_cell? w _ hx360_0)).trans hx360_0
        replace p360 := eq_true p360
        replace q360 := eq_true q360
        have p361 : 0 ≤ (1 : Int) := (by omega)
        have q361 : 1 < (l0.length : Int) := of_decide_eq_true (by first | (with_reducible assumption) | assumption)
        obtain ⟨ad361, e361, hx361_0⟩ := Kd.at_int HR0.out 1 p361 q361
        have hw361_0 := hx361_0
        (try rw [show ((1 : Int)).toNat = 1 from rfl] at hw361_0)
        (try rw [show 1 * 1 = 1 from rfl] at hw361_0)
        (try simp only [Nat.reduceMul, Nat.reduceEqDiff, Go.Addr.add, ↓reduceIte] at hw361_0)
        obtain rfl : ad358 = ad361 := (by injection e361)
        (try simp only [show (1 : Int).toNat = 1 from rfl, Nat.reduceMul, Nat.reduceEqDiff, Go.Addr.add, ↓reduceIte] at hx361_0)
        have qi361 : (1 < l0.length) = True := eq_true (by omega)
        (try rw [show ((1 : Int)).toNat = 1 from rfl] at hx361_0)
        replace hx361_0 := (HB.out.cell (World.block_lt_of_cell? w _ hx361_0)).trans hx361_0
        replace p361 := eq_true p361
        replace q361 := eq_true q361
        refine start_ (n := 12) (S := fun w' => w'.cell? ⟨ad358.block, ad358.off + 1, none⟩ = some (.int .u8 (rd l0 1)) ∧ w'.cell? ⟨ad358.block, ad358.off + 1, none⟩ = some (.int .u8 (rd l0 1))) (ds := []) #[false, false, false, false, false, false, false, false, false, false, false, false] (by kernel_rfl) rfl rfl ⟨((HB.out.cell (World.block_lt_of_cell? w _ hw360_0)).trans hw360_0), ((HB.out.cell (World.block_lt_of_cell? w _ hw361_0)).trans hw361_0)⟩ (fun hHeld => ?_); refine with_tabW crossbarref05_Read.tab8 crossbarref05_Read.bits8 (fun HT_ HW_ => ?_)
        generalize w16.drew = w17 at BK357 HB hx360_0 hx361_0 hHeld ⊢
        refine pure_ (i := 0) (N := some 30) (v := ?_) (a' := ?_) #[true, false, false, false, false, false, false, false, false, false, false, false] rfl rfl (any_of HT_.out (by kernel_rfl)) (fun _ _ _ h => h) (Or.inl ⟨by rfl, ?_⟩) ?_ ?_
        rotate_left
        · intro w'
          go_simp
          with_reducible rfl
        rotate_left
        · simp only [Act.put, List.setIfInBounds_toArray, List.set_cons_zero, List.set_cons_succ, i64_w, i32_w]
          rfl
        refine pure_ (i := 1) (N := some 31) (v := ?_) (a' := ?_) #[true, true, false, false, false, false, false, false, false, false, false, false] rfl rfl (any_of HT_.out (by kernel_rfl)) (fun _ _ _ h => h) (Or.inl ⟨by rfl, ?_⟩) ?_ ?_
        rotate_left
        · intro w'
          go_simp
          with_reducible rfl
        rotate_left
        · simp only [Act.put, List.setIfInBounds_toArray, List.set_cons_zero, List.set_cons_succ, i64_w, i32_w]
          rfl
        refine pure_ (i := 5) (N := some 35) (v := ?_) (a' := ?_) #[true, true, false, false, false, true, false, false, false, false, false, false] rfl rfl (any_of HT_.out (by kernel_rfl)) (fun _ _ _ h => h) (Or.inl ⟨by rfl, ?_⟩) ?_ ?_
        rotate_left
        · intro w'
          go_simp
          with_reducible rfl
        rotate_left
        · simp only [Act.put, List.setIfInBounds_toArray, List.set_cons_zero, List.set_cons_succ, i64_w, i32_w]
          rfl
        refine pure_ (i := 6) (N := some 36) (v := ?_) (a' := ?_) #[true, true, false, false, false, true, true, false, false, false, false, false] rfl rfl (any_of HT_.out (by kernel_rfl)) (fun _ _ _ h => h) (Or.inl ⟨by rfl, ?_⟩) ?_ ?_
        rotate_left
        · intro w'
          go_simp
          with_reducible rfl
        rotate_left
        · simp only [Act.put, List.setIfInBounds_toArray, List.set_cons_zero, List.set_cons_succ, i64_w, i32_w]
          rfl
        refine take_ (i := 2) (N := some 32) (v := ?_) (a' := ?_) #[true, true, true, false, false, true, true, false, false, false, false, false] rfl rfl (take_ofW HT_.out HW_.out (by kernel_rfl)) (fun _ _ _ h => h) (Or.inl ⟨by rfl, ?_⟩) hHeld ?_ ?_
        rotate_left
        · rintro w' ⟨s0, s1⟩
          go_simp
          with_reducible rfl
        rotate_left
        · simp only [Act.put, List.setIfInBounds_toArray, List.set_cons_zero, List.set_cons_succ, i64_w, i32_w]
          rfl
        refine pure_ (i := 3) (N := some 33) (v := ?_) (a' := ?_) #[true, true, true, true, false, true, true, false, false, false, false, false] rfl rfl (any_of HT_.out (by kernel_rfl)) (fun _ _ _ h => h) (Or.inl ⟨by rfl, ?_⟩) ?_ ?_
        rotate_left
        · intro w'
          go_simp
          with_reducible rfl
        rotate_left
        · simp only [Act.put, List.setIfInBounds_toArray, List.set_cons_zero, List.set_cons_succ, i64_w, i32_w]
          rfl
        refine pure_ (i := 4) (N := some 34) (v := ?_) (a' := ?_) #[true, true, true, true, true, true, true, false, false, false, false, false] rfl rfl (any_of HT_.out (by kernel_rfl)) (fun _ _ _ h => h) (Or.inl ⟨by rfl, ?_⟩) ?_ ?_
        rotate_left
        · intro w'
          go_simp
          with_reducible rfl
        rotate_left
        · simp only [Act.put, List.setIfInBounds_toArray, List.set_cons_zero, List.set_cons_succ, i64_w, i32_w]
          rfl
        refine take_ (i := 7) (N := some 37) (v := ?_) (a' := ?_) #[true, true, true, true, true, true, true, true, false, false, false, false] rfl rfl (take_ofW HT_.out HW_.out (by kernel_rfl)) (fun _ _ _ h => h) (Or.inl ⟨by rfl, ?_⟩) hHeld ?_ ?_
        rotate_left
        · rintro w' ⟨s0, s1⟩
          go_simp
          with_reducible rfl
        rotate_left
        · simp only [Act.put, List.setIfInBounds_toArray, List.set_cons_zero, List.set_cons_succ, i64_w, i32_w]
          rfl
        refine pure_ (i := 8) (N := some 38) (v := ?_) (a' := ?_) #[true, true, true, true, true, true, true, true, true, false, false, false] rfl rfl (any_of HT_.out (by kernel_rfl)) (fun _ _ _ h => h) (Or.inl ⟨by rfl, ?_⟩) ?_ ?_
        rotate_left
        · intro w'
          go_simp
          with_reducible rfl
        rotate_left
        · simp only [Act.put, List.setIfInBounds_toArray, List.set_cons_zero, List.set_cons_succ, i64_w, i32_w]
          rfl
        refine pure_ (i := 9) (N := some 39) (v := ?_) (a' := ?_) #[true, true, true, true, true, true, true, true, true, true, false, false] rfl rfl (any_of HT_.out (by kernel_rfl)) (fun _ _ _ h => h) (Or.inl ⟨by rfl, ?_⟩) ?_ ?_
        rotate_left
        · intro w'
          go_simp
          with_reducible rfl
        rotate_left
        · simp only [Act.put, List.setIfInBounds_toArray, List.set_cons_zero, List.set_cons_succ, i64_w, i32_w]
          rfl
        refine one_ (i := 10) (N := some 6) #[true, true, true, true, true, true, true, true, true, true, true, false] rfl rfl (one_of HT_.out (by kernel_rfl)) (by decide) (fun K hK => ?_)
        refine box_step ?hg (N := 6) ?hd (cs := #[.bool false, .bool false, .bool false, .int .i64 0, .int .u16 0, .int .u32 0, .int .u32 0, .slice none 0 0]) (t := 43) ?hr ?_; (case hd => rfl); (case hg => rfl); (case hr => first | (go_simp; done) | (go_simp; rfl))
        intro gb362 hg w18 hbox hb
        have n0_ := bbE BK357 hb
        have n1_ := bstE HB hb
        have BK362 := Aside0.mk (hbox)
        have GW362 := geE hg HB
        have GE362 := geE hg HB
        have NB357_362 := nlE hg BK357
        have NB362_357 := ngE hg BK357
        clear BK357
        clear HB
        have BK357 := n0_
        have HB := n1_
        clear n0_ n1_
        clear hb hbox hg
        refine hK.out _ _ ⟨((HB.out.cell (World.block_lt_of_cell? w _ hw360_0)).trans hw360_0), ((HB.out.cell (World.block_lt_of_cell? w _ hw361_0)).trans hw361_0)⟩ (fun hHeld => ?_)
        clear hK K
        refine norm_ (a' := ?_) ?_ ?_
        rotate_left
        · show Act.put _ (some 6) _ = _
          simp only [Act.put, List.setIfInBounds_toArray, List.set_cons_zero, List.set_cons_succ, i64_w, i32_w]
          rfl
        refine one_ (i := 11) (N := none) #[true, true, true, true, true, true, true, true, true, true, true, true] rfl rfl (one_of HT_.out (by kernel_rfl)) (by decide) (fun K hK => ?_)
        have hs19 : w18.cell? ⟨gb362, 0, none⟩ = some (.bool false) := (blk_cell BK362.out 0).trans rfl
        have hfs19 := blk_frozen BK362.out 0
        have hns19_0 := NB357_362.out
        have hms19_0 := NB362_357.out
        have hs20 : w18.cell? ⟨gb362, 1, none⟩ = some (.bool false) := (blk_cell BK362.out 1).trans rfl
        have hfs20 := blk_frozen BK362.out 1
        have hns20_0 := NB357_362.out
        have hms20_0 := NB362_357.out
        have hs21 : w18.cell? ⟨gb362, 2, none⟩ = some (.bool false) := (blk_cell BK362.out 2).trans rfl
        have hfs21 := blk_frozen BK362.out 2
        have hns21_0 := NB357_362.out
        have hms21_0 := NB362_357.out
        have hs22 : w18.cell? ⟨gb362, 3, none⟩ = some (.int .i64 0) := (blk_cell BK362.out 3).trans rfl
        have hfs22 := blk_frozen BK362.out 3
        have hns22_0 := NB357_362.out
        have hms22_0 := NB362_357.out
        have hs23 : w18.cell? ⟨gb362, 4, none⟩ = some (.int .u16 0) := (blk_cell BK362.out 4).trans rfl
        have hfs23 := blk_frozen BK362.out 4
        have hns23_0 := NB357_362.out
        have hms23_0 := NB362_357.out
        have hs24 : w18.cell? ⟨gb362, 5, none⟩ = some (.int .u32 0) := (blk_cell BK362.out 5).trans rfl
        have hfs24 := blk_frozen BK362.out 5
        have hns24_0 := NB357_362.out
        have hms24_0 := NB362_357.out
        have hs25 : w18.cell? ⟨gb362, 6, none⟩ = some (.int .u32 0) := (blk_cell BK362.out 6).trans rfl
        have hfs25 := blk_frozen BK362.out 6
        have hns25_0 := NB357_362.out
        have hms25_0 := NB362_357.out
        have hs26 : w18.cell? ⟨gb362, 7, none⟩ = some (.slice none 0 0) := (blk_cell BK362.out 7).trans rfl
        have hfs26 := blk_frozen BK362.out 7
        have hns26_0 := NB357_362.out
        have hms26_0 := NB362_357.out
        refine skip_ (w1 := ?_) (by rfl) rfl ?_ ?_
        rotate_left
        · go_simp
          rfl
        refine hK.out _ _ ⟨((cell_far (p := ⟨gb362, _, none⟩) (by first | exact Nat.ne_of_lt (Nat.lt_of_lt_of_le (by have := World.block_lt_of_cell? _ _ hw360_0; first | rwa [add_block] at this | exact this) GW362.out) | (rw [add_block]; exact Nat.ne_of_lt (Nat.lt_of_lt_of_le (by have := World.block_lt_of_cell? _ _ hw360_0; first | rwa [add_block] at this | exact this) GW362.out)) | (show (Addr.add _ _).block ≠ _; rw [add_block]; exact Nat.ne_of_lt (Nat.lt_of_lt_of_le (by have := World.block_lt_of_cell? _ _ hw360_0; first | rwa [add_block] at this | exact this) GW362.out)) | (dsimp only; exact Nat.ne_of_lt (Nat.lt_of_lt_of_le (by have := World.block_lt_of_cell? _ _ hw360_0; first | rwa [add_block] at this | exact this) GW362.out))) _).trans (((cell_far (p := ⟨gb362, _, none⟩) (by first | exact Nat.ne_of_lt (Nat.lt_of_lt_of_le (by have := World.block_lt_of_cell? _ _ hw360_0; first | rwa [add_block] at this | exact this) GW362.out) | (rw [add_block]; exact Nat.ne_of_lt (Nat.lt_of_lt_of_le (by have := World.block_lt_of_cell? _ _ hw360_0; first | rwa [add_block] at this | exact this) GW362.out)) | (show (Addr.add _ _).block ≠ _; rw [add_block]; exact Nat.ne_of_lt (Nat.lt_of_lt_of_le (by have := World.block_lt_of_cell? _ _ hw360_0; first | rwa [add_block] at this | exact this) GW362.out)) | (dsimp only; exact Nat.ne_of_lt (Nat.lt_of_lt_of_le (by have := World.block_lt_of_cell? _ _ hw360_0; first | rwa [add_block] at this | exact this) GW362.out))) _).trans (((cell_far (p := ⟨gb362, _, none⟩) (by first | exact Nat.ne_of_lt (Nat.lt_of_lt_of_le (by have := World.block_lt_of_cell? _ _ hw360_0; first | rwa [add_block] at this | exact this) GW362.out) | (rw [add_block]; exact Nat.ne_of_lt (Nat.lt_of_lt_of_le (by have := World.block_lt_of_cell? _ _ hw360_0; first | rwa [add_block] at this | exact this) GW362.out)) | (show (Addr.add _ _).block ≠ _; rw [add_block]; exact Nat.ne_of_lt (Nat.lt_of_lt_of_le (by have := World.block_lt_of_cell? _ _ hw360_0; first | rwa [add_block] at this | exact this) GW362.out)) | (dsimp only; exact Nat.ne_of_lt (Nat.lt_of_lt_of_le (by have := World.block_lt_of_cell? _ _ hw360_0; first | rwa [add_block] at this | exact this) GW362.out))) _).trans (((cell_far (p := ⟨gb362, _, none⟩) (by first | exact Nat.ne_of_lt (Nat.lt_of_lt_of_le (by have := World.block_lt_of_cell? _ _ hw360_0; first | rwa [add_block] at this | exact this) GW362.out) | (rw [add_block]; exact Nat.ne_of_lt (Nat.lt_of_lt_of_le (by have := World.block_lt_of_cell? _ _ hw360_0; first | rwa [add_block] at this | exact this) GW362.out)) | (show (Addr.add _ _).block ≠ _; rw [add_block]; exact Nat.ne_of_lt (Nat.lt_of_lt_of_le (by have := World.block_lt_of_cell? _ _ hw360_0; first | rwa [add_block] at this | exact this) GW362.out)) | (dsimp only; exact Nat.ne_of_lt (Nat.lt_of_lt_of_le (by have := World.block_lt_of_cell? _ _ hw360_0; first | rwa [add_block] at this | exact this) GW362.out))) _).trans (((cell_far (p := ⟨gb362, _, none⟩) (by first | exact Nat.ne_of_lt (Nat.lt_of_lt_of_le (by have := World.block_lt_of_cell? _ _ hw360_0; first | rwa [add_block] at this | exact this) GW362.out) | (rw [add_block]; exact Nat.ne_of_lt (Nat.lt_of_lt_of_le (by have := World.block_lt_of_cell? _ _ hw360_0; first | rwa [add_block] at this | exact this) GW362.out)) | (show (Addr.add _ _).block ≠ _; rw [add_block]; exact Nat.ne_of_lt (Nat.lt_of_lt_of_le (by have := World.block_lt_of_cell? _ _ hw360_0; first | rwa [add_block] at this | exact this) GW362.out)) | (dsimp only; exact Nat.ne_of_lt (Nat.lt_of_lt_of_le (by have := World.block_lt_of_cell? _ _ hw360_0; first | rwa [add_block] at this | exact this) GW362.out))) _).trans (((cell_far (p := ⟨gb362, _, none⟩) (by first | exact Nat.ne_of_lt (Nat.lt_of_lt_of_le (by have := World.block_lt_of_cell? _ _ hw360_0; first | rwa [add_block] at this | exact this) GW362.out) | (rw [add_block]; exact Nat.ne_of_lt (Nat.lt_of_lt_of_le (by have := World.block_lt_of_cell? _ _ hw360_0; first | rwa [add_block] at this | exact this) GW362.out)) | (show (Addr.add _ _).block ≠ _; rw [add_block]; exact Nat.ne_of_lt (Nat.lt_of_lt_of_le (by have := World.block_lt_of_cell? _ _ hw360_0; first | rwa [add_block] at this | exact this) GW362.out)) | (dsimp only; exact Nat.ne_of_lt (Nat.lt_of_lt_of_le (by have := World.block_lt_of_cell? _ _ hw360_0; first | rwa [add_block] at this | exact this) GW362.out))) _).trans (((cell_far (p := ⟨gb362, _, none⟩) (by first | exact Nat.ne_of_lt (Nat.lt_of_lt_of_le (by have := World.block_lt_of_cell? _ _ hw360_0; first | rwa [add_block] at this | exact this) GW362.out) | (rw [add_block]; exact Nat.ne_of_lt (Nat.lt_of_lt_of_le (by have := World.block_lt_of_cell? _ _ hw360_0; first | rwa [add_block] at this | exact this) GW362.out)) | (show (Addr.add _ _).block ≠ _; rw [add_block]; exact Nat.ne_of_lt (Nat.lt_of_lt_of_le (by have := World.block_lt_of_cell? _ _ hw360_0; first | rwa [add_block] at this | exact this) GW362.out)) | (dsimp only; exact Nat.ne_of_lt (Nat.lt_of_lt_of_le (by have := World.block_lt_of_cell? _ _ hw360_0; first | rwa [add_block] at this | exact this) GW362.out))) _).trans (((cell_far (p := ⟨gb362, _, none⟩) (by first | exact Nat.ne_of_lt (Nat.lt_of_lt_of_le (by have := World.block_lt_of_cell? _ _ hw360_0; first | rwa [add_block] at this | exact this) GW362.out) | (rw [add_block]; exact Nat.ne_of_lt (Nat.lt_of_lt_of_le (by have := World.block_lt_of_cell? _ _ hw360_0; first | rwa [add_block] at this | exact this) GW362.out)) | (show (Addr.add _ _).block ≠ _; rw [add_block]; exact Nat.ne_of_lt (Nat.lt_of_lt_of_le (by have := World.block_lt_of_cell? _ _ hw360_0; first | rwa [add_block] at this | exact this) GW362.out)) | (dsimp only; exact Nat.ne_of_lt (Nat.lt_of_lt_of_le (by have := World.block_lt_of_cell? _ _ hw360_0; first | rwa [add_block] at this | exact this) GW362.out))) _).trans (hHeld.1)))))))))))))))), ((cell_far (p := ⟨gb362, _, none⟩) (by first | exact Nat.ne_of_lt (Nat.lt_of_lt_of_le (by have := World.block_lt_of_cell? _ _ hw361_0; first | rwa [add_block] at this | exact this) GW362.out) | (rw [add_block]; exact Nat.ne_of_lt (Nat.lt_of_lt_of_le (by have := World.block_lt_of_cell? _ _ hw361_0; first | rwa [add_block] at this | exact this) GW362.out)) | (show (Addr.add _ _).block ≠ _; rw [add_block]; exact Nat.ne_of_lt (Nat.lt_of_lt_of_le (by have := World.block_lt_of_cell? _ _ hw361_0; first | rwa [add_block] at this | exact this) GW362.out)) | (dsimp only; exact Nat.ne_of_lt (Nat.lt_of_lt_of_le (by have := World.block_lt_of_cell? _ _ hw361_0; first | rwa [add_block] at this | exact this) GW362.out))) _).trans (((cell_far (p := ⟨gb362, _, none⟩) (by first | exact Nat.ne_of_lt (Nat.lt_of_lt_of_le (by have := World.block_lt_of_cell? _ _ hw361_0; first | rwa [add_block] at this | exact this) GW362.out) | (rw [add_block]; exact Nat.ne_of_lt (Nat.lt_of_lt_of_le (by have := World.block_lt_of_cell? _ _ hw361_0; first | rwa [add_block] at this | exact this) GW362.out)) | (show (Addr.add _ _).block ≠ _; rw [add_block]; exact Nat.ne_of_lt (Nat.lt_of_lt_of_le (by have := World.block_lt_of_cell? _ _ hw361_0; first | rwa [add_block] at this | exact this) GW362.out)) | (dsimp only; exact Nat.ne_of_lt (Nat.lt_of_lt_of_le (by have := World.block_lt_of_cell? _ _ hw361_0; first | rwa [add_block] at this | exact this) GW362.out))) _).trans (((cell_far (p := ⟨gb362, _, none⟩) (by first | exact Nat.ne_of_lt (Nat.lt_of_lt_of_le (by have := World.block_lt_of_cell? _ _ hw361_0; first | rwa [add_block] at this | exact this) GW362.out) | (rw [add_block]; exact Nat.ne_of_lt (Nat.lt_of_lt_of_le (by have := World.block_lt_of_cell? _ _ hw361_0; first | rwa [add_block] at this | exact this) GW362.out)) | (show (Addr.add _ _).block ≠ _; rw [add_block]; exact Nat.ne_of_lt (Nat.lt_of_lt_of_le (by have := World.block_lt_of_cell? _ _ hw361_0; first | rwa [add_block] at this | exact this) GW362.out)) | (dsimp only; exact Nat.ne_of_lt (Nat.lt_of_lt_of_le (by have := World.block_lt_of_cell? _ _ hw361_0; first | rwa [add_block] at this | exact this) GW362.out))) _).trans (((cell_far (p := ⟨gb362, _, none⟩) (by first | exact Nat.ne_of_lt (Nat.lt_of_lt_of_le (by have := World.block_lt_of_cell? _ _ hw361_0; first | rwa [add_block] at this | exact this) GW362.out) | (rw [add_block]; exact Nat.ne_of_lt (Nat.lt_of_lt_of_le (by have := World.block_lt_of_cell? _ _ hw361_0; first | rwa [add_block] at this | exact this) GW362.out)) | (show (Addr.add _ _).block ≠ _; rw [add_block]; exact Nat.ne_of_lt (Nat.lt_of_lt_of_le (by have := World.block_lt_of_cell? _ _ hw361_0; first | rwa [add_block] at this | exact this) GW362.out)) | (dsimp only; exact Nat.ne_of_lt (Nat.lt_of_lt_of_le (by have := World.block_lt_of_cell? _ _ hw361_0; first | rwa [add_block] at this | exact this) GW362.out))) _).trans (((cell_far (p := ⟨gb362, _, none⟩) (by first | exact Nat.ne_of_lt (Nat.lt_of_lt_of_le (by have := World.block_lt_of_cell? _ _ hw361_0; first | rwa [add_block] at this | exact this) GW362.out) | (rw [add_block]; exact Nat.ne_of_lt (Nat.lt_of_lt_of_le (by have := World.block_lt_of_cell? _ _ hw361_0; first | rwa [add_block] at this | exact this) GW362.out)) | (show (Addr.add _ _).block ≠ _; rw [add_block]; exact Nat.ne_of_lt (Nat.lt_of_lt_of_le (by have := World.block_lt_of_cell? _ _ hw361_0; first | rwa [add_block] at this | exact this) GW362.out)) | (dsimp only; exact Nat.ne_of_lt (Nat.lt_of_lt_of_le (by have := World.block_lt_of_cell? _ _ hw361_0; first | rwa [add_block] at this | exact this) GW362.out))) _).trans (((cell_far (p := ⟨gb362, _, none⟩) (by first | exact Nat.ne_of_lt (Nat.lt_of_lt_of_le (by have := World.block_lt_of_cell? _ _ hw361_0; first | rwa [add_block] at this | exact this) GW362.out) | (rw [add_block]; exact Nat.ne_of_lt (Nat.lt_of_lt_of_le (by have := World.block_lt_of_cell? _ _ hw361_0; first | rwa [add_block] at this | exact this) GW362.out)) | (show (Addr.add _ _).block ≠ _; rw [add_block]; exact Nat.ne_of_lt (Nat.lt_of_lt_of_le (by have := World.block_lt_of_cell? _ _ hw361_0; first | rwa [add_block] at this | exact this) GW362.out)) | (dsimp only; exact Nat.ne_of_lt (Nat.lt_of_lt_of_le (by have := World.block_lt_of_cell? _ _ hw361_0; first | rwa [add_block] at this | exact this) GW362.out))) _).trans (((cell_far (p := ⟨gb362, _, none⟩) (by first | exact Nat.ne_of_lt (Nat.lt_of_lt_of_le (by have := World.block_lt_of_cell? _ _ hw361_0; first | rwa [add_block] at this | exact this) GW362.out) | (rw [add_block]; exact Nat.ne_of_lt (Nat.lt_of_lt_of_le (by have := World.block_lt_of_cell? _ _ hw361_0; first | rwa [add_block] at this | exact this) GW362.out)) | (show (Addr.add _ _).block ≠ _; rw [add_block]; exact Nat.ne_of_lt (Nat.lt_of_lt_of_le (by have := World.block_lt_of_cell? _ _ hw361_0; first | rwa [add_block] at this | exact this) GW362.out)) | (dsimp only; exact Nat.ne_of_lt (Nat.lt_of_lt_of_le (by have := World.block_lt_of_cell? _ _ hw361_0; first | rwa [add_block] at this | exact this) GW362.out))) _).trans (((cell_far (p := ⟨gb362, _, none⟩) (by first | exact Nat.ne_of_lt (Nat.lt_of_lt_of_le (by have := World.block_lt_of_cell? _ _ hw361_0; first | rwa [add_block] at this | exact this) GW362.out) | (rw [add_block]; exact Nat.ne_of_lt (Nat.lt_of_lt_of_le (by have := World.block_lt_of_cell? _ _ hw361_0; first | rwa [add_block] at this | exact this) GW362.out)) | (show (Addr.add _ _).block ≠ _; rw [add_block]; exact Nat.ne_of_lt (Nat.lt_of_lt_of_le (by have := World.block_lt_of_cell? _ _ hw361_0; first | rwa [add_block] at this | exact this) GW362.out)) | (dsimp only; exact Nat.ne_of_lt (Nat.lt_of_lt_of_le (by have := World.block_lt_of_cell? _ _ hw361_0; first | rwa [add_block] at this | exact this) GW362.out))) _).trans (hHeld.2))))))))))))))))⟩ (fun hHeld => ?_)
        clear hK K
        refine done_ (done_of HT_.out (by kernel_rfl)) ?_
        have p363 : 0 ≤ (0 : Int) := (by omega)
        have q363 : 0 < (l0.length : Int) := of_decide_eq_true (by first | (with_reducible assumption) | assumption)
        obtain ⟨ad363, e363, hx363_0⟩ := Kd.at_int HR0.out 0 p363 q363
        obtain rfl : ad358 = ad363 := (by injection e363)
        have qi363 : (0 < l0.length) = True := eq_true (by omega)
        (try rw [show ((0 : Int)).toNat = 0 from rfl] at hx363_0)
        (try rw [Addr.add_zero'] at hx363_0)
        have hn363_0 : ad358.block ≠ gb362 := Nat.ne_of_lt (Nat.lt_of_lt_of_le (by have := World.block_lt_of_cell? _ _ hx363_0; first | rwa [add_block] at this | exact this) GW362.out)
        have hn363_1 : ad358.block ≠ gb362 := Nat.ne_of_lt (Nat.lt_of_lt_of_le (by have := World.block_lt_of_cell? _ _ hx363_0; first | rwa [add_block] at this | exact this) GW362.out)
        have hn363_2 : ad358.block ≠ gb362 := Nat.ne_of_lt (Nat.lt_of_lt_of_le (by have := World.block_lt_of_cell? _ _ hx363_0; first | rwa [add_block] at this | exact this) GW362.out)
        have hn363_3 : ad358.block ≠ gb362 := Nat.ne_of_lt (Nat.lt_of_lt_of_le (by have := World.block_lt_of_cell? _ _ hx363_0; first | rwa [add_block] at this | exact this) GW362.out)
        have hn363_4 : ad358.block ≠ gb362 := Nat.ne_of_lt (Nat.lt_of_lt_of_le (by have := World.block_lt_of_cell? _ _ hx363_0; first | rwa [add_block] at this | exact this) GW362.out)
        have hn363_5 : ad358.block ≠ gb362 := Nat.ne_of_lt (Nat.lt_of_lt_of_le (by have := World.block_lt_of_cell? _ _ hx363_0; first | rwa [add_block] at this | exact this) GW362.out)
        have hn363_6 : ad358.block ≠ gb362 := Nat.ne_of_lt (Nat.lt_of_lt_of_le (by have := World.block_lt_of_cell? _ _ hx363_0; first | rwa [add_block] at this | exact this) GW362.out)
        have hn363_7 : ad358.block ≠ gb362 := Nat.ne_of_lt (Nat.lt_of_lt_of_le (by have := World.block_lt_of_cell? _ _ hx363_0; first | rwa [add_block] at this | exact this) GW362.out)
        replace hx363_0 := (HB.out.cell (World.block_lt_of_cell? w _ hx363_0)).trans hx363_0
        replace hx363_0 := (cell_far (p := ⟨gb362, 0, none⟩) (by first | (rw [add_block]; exact hn363_0) | (show (Addr.add _ _).block ≠ _; rw [add_block]; exact hn363_0) | exact hn363_0) (.bool false)).trans hx363_0
        replace hx363_0 := (cell_far (p := ⟨gb362, 1, none⟩) (by first | (rw [add_block]; exact hn363_1) | (show (Addr.add _ _).block ≠ _; rw [add_block]; exact hn363_1) | exact hn363_1) (.bool false)).trans hx363_0
        replace hx363_0 := (cell_far (p := ⟨gb362, 2, none⟩) (by first | (rw [add_block]; exact hn363_2) | (show (Addr.add _ _).block ≠ _; rw [add_block]; exact hn363_2) | exact hn363_2) (.bool (decide ((rd l0 1) ≥ 128)))).trans hx363_0
        replace hx363_0 := (cell_far (p := ⟨gb362, 3, none⟩) (by first | (rw [add_block]; exact hn363_3) | (show (Addr.add _ _).block ≠ _; rw [add_block]; exact hn363_3) | exact hn363_3) (.int .i64 (wrap64 (Int.tmod (rd l0 1) 128)))).trans hx363_0
        replace hx363_0 := (cell_far (p := ⟨gb362, 4, none⟩) (by first | (rw [add_block]; exact hn363_4) | (show (Addr.add _ _).block ≠ _; rw [add_block]; exact hn363_4) | exact hn363_4) (.int .u16 0)).trans hx363_0
        replace hx363_0 := (cell_far (p := ⟨gb362, 5, none⟩) (by first | (rw [add_block]; exact hn363_5) | (show (Addr.add _ _).block ≠ _; rw [add_block]; exact hn363_5) | exact hn363_5) (.int .u32 0)).trans hx363_0
        replace hx363_0 := (cell_far (p := ⟨gb362, 6, none⟩) (by first | (rw [add_block]; exact hn363_6) | (show (Addr.add _ _).block ≠ _; rw [add_block]; exact hn363_6) | exact hn363_6) (.int .u32 0)).trans hx363_0
        replace hx363_0 := (cell_far (p := ⟨gb362, 7, none⟩) (by first | (rw [add_block]; exact hn363_7) | (show (Addr.add _ _).block ≠ _; rw [add_block]; exact hn363_7) | exact hn363_7) (.slice none 0 0)).trans hx363_0
        clear hn363_0
        clear hn363_1
        clear hn363_2
        clear hn363_3
        clear hn363_4
        clear hn363_5
        clear hn363_6
        clear hn363_7
        replace p363 := eq_true p363
        replace q363 := eq_true q363
        have hnb27 := NB362_357.out
        have hnc27 := NB357_362.out
        obtain ⟨hcz28_0, hcz28_1, hcz28_2, hcz28_3, hcz28_4, hcz28_5, hcz28_6, hcz28_7, hfz28_0, hfz28_1, hfz28_2, hfz28_3, hfz28_4, hfz28_5, hfz28_6, hfz28_7⟩ := bc8 BK362.out
        try go_wp2_with (first | ((with_reducible refine gate_store (t := 4) (p := 46) rfl ?_); refine store_event (t := 4) (p := 46) (v := ?vo_w29) (w1 := (((((((((w18.setCell ⟨gb362, 0, none⟩ (.bool false)).setCell ⟨gb362, 1, none⟩ (.bool false)).setCell ⟨gb362, 2, none⟩ (.bool (decide ((rd l0 1) ≥ 128)))).setCell ⟨gb362, 3, none⟩ (.int .i64 (wrap64 (Int.tmod (rd l0 1) 128)))).setCell ⟨gb362, 4, none⟩ (.int .u16 0)).setCell ⟨gb362, 5, none⟩ (.int .u32 0)).setCell ⟨gb362, 6, none⟩ (.int .u32 0)).setCell ⟨gb362, 7, none⟩ (.slice none 0 0)).setCell ⟨gb362, 0, none⟩ (.bool ((((Int.tdiv (rd l0 0) 32) % 256) % 2) == 1)))) ?hg ?ho ?hn ?hr ?_; (case ho => rfl); (case hg => rfl); (case hn => rfl); (case hr => first | (go_simp; done) | (go_simp; rfl)); intro w29 hw; replace BK357 := bfE hw BK357 NB357_362; replace BK362 : Aside0 (w29.heap[gb362]? = some (.cells #[.bool ((((Int.tdiv (rd l0 0) 32) % 256) % 2) == 1), .bool false, .bool (decide ((rd l0 1) ≥ 128)), .int .i64 (wrap64 (Int.tmod (rd l0 1) 128)), .int .u16 0, .int .u32 0, .int .u32 0, .slice none 0 0] 43 (0, 0))) := ⟨(by rw [hw]; exact (by (with_reducible repeat (first | refine blk_drewN ?_ _ | refine blk_drew ?_ | refine blk_alloc ?_ _)); refine blk_put (cs := #[.bool false, .bool false, .bool (decide ((rd l0 1) ≥ 128)), .int .i64 (wrap64 (Int.tmod (rd l0 1) 128)), .int .u16 0, .int .u32 0, .int .u32 0, .slice none 0 0]) ?_ 0 _ rfl; apply puts8; (with_reducible repeat (first | refine blk_drewN ?_ _ | refine blk_drew ?_ | refine blk_alloc ?_ _)); exact BK362.out))⟩; replace HB := bsE hw HB GE362; clear hw; have p364 : 0 ≤ (0 : Int) := (by omega); have q364 : 0 < (l0.length : Int) := of_decide_eq_true (by first | (with_reducible assumption) | assumption); obtain ⟨ad364, e364, hx364_0⟩ := Kd.at_int HR0.out 0 p364 q364; obtain rfl : ad358 = ad364 := (by injection e364); have qi364 : (0 < l0.length) = True := eq_true (by omega); (try rw [show ((0 : Int)).toNat = 0 from rfl] at hx364_0); (try rw [Addr.add_zero'] at hx364_0); replace hx364_0 := (HB.out.cell (World.block_lt_of_cell? w _ hx364_0)).trans hx364_0; replace p364 := eq_true p364; replace q364 := eq_true q364; obtain ⟨hcz30_0, hcz30_1, hcz30_2, hcz30_3, hcz30_4, hcz30_5, hcz30_6, hcz30_7, hfz30_0, hfz30_1, hfz30_2, hfz30_3, hfz30_4, hfz30_5, hfz30_6, hfz30_7⟩ := bc8 BK362.out) | ((with_reducible refine gate_store (t := 4) (p := 53) rfl ?_); refine store_event (t := 4) (p := 53) (v := ?vo_w31) (w1 := (w29.setCell ⟨gb362, 1, none⟩ (.bool ((((Int.tdiv (rd l0 0) 16) % 256) % 2) == 1)))) ?hg ?ho ?hn ?hr ?_; (case ho => rfl); (case hg => rfl); (case hn => rfl); (case hr => first | (go_simp; done) | (go_simp; rfl)); intro w31 hw; replace BK357 := bfE hw BK357 NB357_362; replace BK362 : Aside0 (w31.heap[gb362]? = some (.cells #[.bool ((((Int.tdiv (rd l0 0) 32) % 256) % 2) == 1), .bool ((((Int.tdiv (rd l0 0) 16) % 256) % 2) == 1), .bool (decide ((rd l0 1) ≥ 128)), .int .i64 (wrap64 (Int.tmod (rd l0 1) 128)), .int .u16 0, .int .u32 0, .int .u32 0, .slice none 0 0] 43 (0, 0))) := ⟨by rw [hw]; exact blk_put BK362.out 1 _ rfl⟩; replace HB := bsE hw HB GE362; clear hw) | ((with_reducible refine gate_callee (f := 43) rfl ?_); refine goesL_ (some 55) rfl rfl Try.func43 (by kernel_rfl) rfl #[.slice (some ad358) l0.length c0, .int .i64 2, .int .i64 2] rfl (by (try simp only [List.map_toArray, List.map_cons, List.map_nil]); first | done | rfl | (simp only [List.length_drop, List.length_take]; rfl)) ?_; (with_reducible refine (crossbarref05_Num.calls k _ _ l0 2 2 t365 _ ?side1 ?side2 A13.out).mono ?_); (case side1 => repeat (first | exact (Kd.C_below HR0.out HB.out) | (with_reducible refine Kd.C_alloc ?_ _) | (with_reducible refine Kd.C_drewN ?_ _) | (with_reducible refine Kd.C_drew ?_))); (case side2 => exact HC0.out); rintro e w' ⟨rfl, ⟨nd, rfl⟩⟩; refine ⟨_, rfl, ?_⟩; (try (rw [drewN_self w31]; generalize hq_ : World.drewN w31 _ = w31; replace BK357 : Aside0 (w31.heap[gb357]? = some (.cells #[.bool false, .bool false, .bool false, .int .i64 0, .int .u16 0, .int .u32 0, .int .u32 0, .slice none 0 0] 43 (0, 0))) := ⟨by rw [← hq_]; exact (pk BK357)⟩; replace BK362 : Aside0 (w31.heap[gb362]? = some (.cells #[.bool ((((Int.tdiv (rd l0 0) 32) % 256) % 2) == 1), .bool ((((Int.tdiv (rd l0 0) 16) % 256) % 2) == 1), .bool (decide ((rd l0 1) ≥ 128)), .int .i64 (wrap64 (Int.tmod (rd l0 1) 128)), .int .u16 0, .int .u32 0, .int .u32 0, .slice none 0 0] 43 (0, 0))) := ⟨by rw [← hq_]; exact (pk BK362)⟩; replace HB : Aside0 (Below w.heap.size w w31) := ⟨by rw [← hq_]; exact (pB HB)⟩; clear hq_)); obtain ⟨hcz32_0, hcz32_1, hcz32_2, hcz32_3, hcz32_4, hcz32_5, hcz32_6, hcz32_7, hfz32_0, hfz32_1, hfz32_2, hfz32_3, hfz32_4, hfz32_5, hfz32_6, hfz32_7⟩ := bc8 BK362.out) | ((with_reducible refine gate_store (t := 39) (p := 57) rfl ?_); refine store_event (t := 39) (p := 57) (v := ?vo_w33) (w1 := (w31.setCell ⟨gb362, 4, none⟩ (.int .u16 (IntKind.u16.wrap (t365))))) ?hg ?ho ?hn ?hr ?_; (case ho => rfl); (case hg => rfl); (case hn => rfl); (case hr => first | (go_simp; done) | (go_simp; rfl)); intro w33 hw; replace BK357 := bfE hw BK357 NB357_362; replace BK362 : Aside0 (w33.heap[gb362]? = some (.cells #[.bool ((((Int.tdiv (rd l0 0) 32) % 256) % 2) == 1), .bool ((((Int.tdiv (rd l0 0) 16) % 256) % 2) == 1), .bool (decide ((rd l0 1) ≥ 128)), .int .i64 (wrap64 (Int.tmod (rd l0 1) 128)), .int .u16 (IntKind.u16.wrap (t365)), .int .u32 0, .int .u32 0, .slice none 0 0] 43 (0, 0))) := ⟨by rw [hw]; exact blk_put BK362.out 4 _ rfl⟩; replace HB := bsE hw HB GE362; clear hw) | ((with_reducible refine gate_callee (f := 43) rfl ?_); refine goesL_ (some 59) rfl rfl Try.func43 (by kernel_rfl) rfl #[.slice (some ad358) l0.length c0, .int .i64 4, .int .i64 4] rfl (by (try simp only [List.map_toArray, List.map_cons, List.map_nil]); first | done | rfl | (simp only [List.length_drop, List.length_take]; rfl)) ?_; (with_reducible refine (crossbarref05_Num.calls k _ _ l0 4 4 t366 _ ?side1 ?side2 A14.out).mono ?_); (case side1 => repeat (first | exact (Kd.C_below HR0.out HB.out) | (with_reducible refine Kd.C_alloc ?_ _) | (with_reducible refine Kd.C_drewN ?_ _) | (with_reducible refine Kd.C_drew ?_))); (case side2 => exact HC0.out); rintro e w' ⟨rfl, ⟨nd, rfl⟩⟩; refine ⟨_, rfl, ?_⟩; (try (rw [drewN_self w33]; generalize hq_ : World.drewN w33 _ = w33; replace BK357 : Aside0 (w33.heap[gb357]? = some (.cells #[.bool false, .bool false, .bool false, .int .i64 0, .int .u16 0, .int .u32 0, .int .u32 0, .slice none 0 0] 43 (0, 0))) := ⟨by rw [← hq_]; exact (pk BK357)⟩; replace BK362 : Aside0 (w33.heap[gb362]? = some (.cells #[.bool ((((Int.tdiv (rd l0 0) 32) % 256) % 2) == 1), .bool ((((Int.tdiv (rd l0 0) 16) % 256) % 2) == 1), .bool (decide ((rd l0 1) ≥ 128)), .int .i64 (wrap64 (Int.tmod (rd l0 1) 128)), .int .u16 (IntKind.u16.wrap (t365)), .int .u32 0, .int .u32 0, .slice none 0 0] 43 (0, 0))) := ⟨by rw [← hq_]; exact (pk BK362)⟩; replace HB : Aside0 (Below w.heap.size w w33) := ⟨by rw [← hq_]; exact (pB HB)⟩; clear hq_)); obtain ⟨hcz34_0, hcz34_1, hcz34_2, hcz34_3, hcz34_4, hcz34_5, hcz34_6, hcz34_7, hfz34_0, hfz34_1, hfz34_2, hfz34_3, hfz34_4, hfz34_5, hfz34_6, hfz34_7⟩ := bc8 BK362.out) | ((with_reducible refine gate_store (t := 40) (p := 60) rfl ?_); refine store_event (t := 40) (p := 60) (v := ?vo_w35) (w1 := (w33.setCell ⟨gb362, 5, none⟩ (.int .u32 t366))) ?hg ?ho ?hn ?hr ?_; (case ho => rfl); (case hg => rfl); (case hn => rfl); (case hr => first | (go_simp; done) | (go_simp; rfl)); intro w35 hw; replace BK357 := bfE hw BK357 NB357_362; replace BK362 : Aside0 (w35.heap[gb362]? = some (.cells #[.bool ((((Int.tdiv (rd l0 0) 32) % 256) % 2) == 1), .bool ((((Int.tdiv (rd l0 0) 16) % 256) % 2) == 1), .bool (decide ((rd l0 1) ≥ 128)), .int .i64 (wrap64 (Int.tmod (rd l0 1) 128)), .int .u16 (IntKind.u16.wrap (t365)), .int .u32 t366, .int .u32 0, .slice none 0 0] 43 (0, 0))) := ⟨by rw [hw]; exact blk_put BK362.out 5 _ rfl⟩; replace HB := bsE hw HB GE362; clear hw) | ((with_reducible refine gate_callee (f := 43) rfl ?_); refine goesL_ (some 62) rfl rfl Try.func43 (by kernel_rfl) rfl #[.slice (some ad358) l0.length c0, .int .i64 8, .int .i64 4] rfl (by (try simp only [List.map_toArray, List.map_cons, List.map_nil]); first | done | rfl | (simp only [List.length_drop, List.length_take]; rfl)) ?_; (with_reducible refine (crossbarref05_Num.calls k _ _ l0 8 4 t367 _ ?side1 ?side2 A15.out).mono ?_); (case side1 => repeat (first | exact (Kd.C_below HR0.out HB.out) | (with_reducible refine Kd.C_alloc ?_ _) | (with_reducible refine Kd.C_drewN ?_ _) | (with_reducible refine Kd.C_drew ?_))); (case side2 => exact HC0.out); rintro e w' ⟨rfl, ⟨nd, rfl⟩⟩; refine ⟨_, rfl, ?_⟩; (try (rw [drewN_self w35]; generalize hq_ : World.drewN w35 _ = w35; replace BK357 : Aside0 (w35.heap[gb357]? = some (.cells #[.bool false, .bool false, .bool false, .int .i64 0, .int .u16 0, .int .u32 0, .int .u32 0, .slice none 0 0] 43 (0, 0))) := ⟨by rw [← hq_]; exact (pk BK357)⟩; replace BK362 : Aside0 (w35.heap[gb362]? = some (.cells #[.bool ((((Int.tdiv (rd l0 0) 32) % 256) % 2) == 1), .bool ((((Int.tdiv (rd l0 0) 16) % 256) % 2) == 1), .bool (decide ((rd l0 1) ≥ 128)), .int .i64 (wrap64 (Int.tmod (rd l0 1) 128)), .int .u16 (IntKind.u16.wrap (t365)), .int .u32 t366, .int .u32 0, .slice none 0 0] 43 (0, 0))) := ⟨by rw [← hq_]; exact (pk BK362)⟩; replace HB : Aside0 (Below w.heap.size w w35) := ⟨by rw [← hq_]; exact (pB HB)⟩; clear hq_)); obtain ⟨hcz36_0, hcz36_1, hcz36_2, hcz36_3, hcz36_4, hcz36_5, hcz36_6, hcz36_7, hfz36_0, hfz36_1, hfz36_2, hfz36_3, hfz36_4, hfz36_5, hfz36_6, hfz36_7⟩ := bc8 BK362.out) | ((with_reducible refine gate_store (t := 40) (p := 63) rfl ?_); refine store_event (t := 40) (p := 63) (v := ?vo_w37) (w1 := (w35.setCell ⟨gb362, 6, none⟩ (.int .u32 t367))) ?hg ?ho ?hn ?hr ?_; (case ho => rfl); (case hg => rfl); (case hn => rfl); (case hr => first | (go_simp; done) | (go_simp; rfl)); intro w37 hw; replace BK357 := bfE hw BK357 NB357_362; replace BK362 : Aside0 (w37.heap[gb362]? = some (.cells #[.bool ((((Int.tdiv (rd l0 0) 32) % 256) % 2) == 1), .bool ((((Int.tdiv (rd l0 0) 16) % 256) % 2) == 1), .bool (decide ((rd l0 1) ≥ 128)), .int .i64 (wrap64 (Int.tmod (rd l0 1) 128)), .int .u16 (IntKind.u16.wrap (t365)), .int .u32 t366, .int .u32 t367, .slice none 0 0] 43 (0, 0))) := ⟨by rw [hw]; exact blk_put BK362.out 6 _ rfl⟩; replace HB := bsE hw HB GE362; clear hw))
        go_loopg [7] k (fun kq v7 w' => ∃ (x7_1 : Int) (x363007_1 : List Int) (u363007 : Value), v7 = .int .i64 x7_1 ∧ Aside0 (crossbarref05_Read.l0 kq l0 (wrap64 (Int.tmod (rd l0 0) 16)) x7_1 ((((Int.tdiv (rd l0 0) 32) % 256) % 2) == 1) ((((Int.tdiv (rd l0 0) 16) % 256) % 2) == 1) (decide ((rd l0 1) ≥ 128)) (wrap64 (Int.tmod (rd l0 1) 128)) (IntKind.u16.wrap (t365)) t366 t367 x363007_1 = some (r1, r2, r3, r4, r5, r6, r7, r8, r9, r10)) ∧ Aside0 (kq ≤ k) ∧ Aside0 (Kd.R (Kd.int .u32) 40 w' w.heap.size (fun _ => True) u363007 x363007_1) ∧ Aside0 (w'.heap[gb357]? = some (.cells #[.bool false, .bool false, .bool false, .int .i64 0, .int .u16 0, .int .u32 0, .int .u32 0, (.slice none 0 0)] 43 (0, 0))) ∧ Aside0 (w'.heap[gb362]? = some (.cells #[.bool ((((Int.tdiv (rd l0 0) 32) % 256) % 2) == 1), .bool ((((Int.tdiv (rd l0 0) 16) % 256) % 2) == 1), .bool (decide ((rd l0 1) ≥ 128)), .int .i64 (wrap64 (Int.tmod (rd l0 1) 128)), .int .u16 (IntKind.u16.wrap (t365)), .int .u32 t366, .int .u32 t367, u363007] 43 (0, 0))) ∧ Aside0 (Below w.heap.size w w'))
        case atStart => exact ⟨(0), (([] : List Int)), (.slice none 0 0), (by first | rfl | (simp; done) | (simp [*]; done)), H', ⟨Nat.le_refl _⟩, ⟨by first | exact Kd.R_nil _ _ _ _ _ | exact Kd.N_nil _ _ _ _ _ | exact Kd.V_nil _ _ _ _ _ | exact Kd.Q_nil _ _ _ _ _ | exact Kd.S_nil _ _ _ _ _⟩, ⟨by (with_reducible repeat (first | refine blk_drewN ?_ _ | refine blk_drew ?_ | refine blk_alloc ?_ _)); exact BK357.out⟩, ⟨by (with_reducible repeat (first | refine blk_drewN ?_ _ | refine blk_drew ?_ | refine blk_alloc ?_ _)); exact BK362.out⟩, ⟨by repeat (first | (with_reducible first | exact HB.out | apply below_alloc | apply pw_below_drewN | apply below_drew1 | refine below_set ?_ GE357.out | refine below_set ?_ GE362.out) | exact HB.out)⟩⟩
        case round =>
          clear H'
          try clear c1
          try clear c2
          try clear c2b0
          try clear c2b1
          try clear p2
          try clear p3
          try clear q3
          try clear hx3
          try clear qi3
          try clear c4
          try clear c6
          try clear c6b0
          try clear c6b1
          try clear p6
          try clear c7
          try clear c7b0
          try clear c7b1
          try clear c8
          try clear c8b0
          try clear c12
          try clear c12b0
          try clear c12b1
          try clear c27
          try clear p35
          try clear q35
          try clear hx35
          try clear qi35
          try clear p36
          try clear q36
          try clear hx36
          try clear qi36
          try clear hcz10_0
          try clear hcz10_1
          try clear hcz10_2
          try clear hcz10_3
          try clear hcz10_4
          try clear hcz10_5
          try clear hcz10_6
          try clear hcz10_7
          try clear hcz28_0
          try clear hcz28_1
          try clear hcz28_2
          try clear hcz28_3
          try clear hcz28_4
          try clear hcz28_5
          try clear hcz28_6
          try clear hcz28_7
          try clear hcz30_0
          try clear hcz30_1
          try clear hcz30_2
          try clear hcz30_3
          try clear hcz30_4
          try clear hcz30_5
          try clear hcz30_6
          try clear hcz30_7
          try clear hcz32_0
          try clear hcz32_1
          try clear hcz32_2
          try clear hcz32_3
          try clear hcz32_4
          try clear hcz32_5
          try clear hcz32_6
          try clear hcz32_7
          try clear hcz34_0
          try clear hcz34_1
          try clear hcz34_2
          try clear hcz34_3
          try clear hcz34_4
          try clear hcz34_5
          try clear hcz34_6
          try clear hcz34_7
          try clear hcz36_0
          try clear hcz36_1
          try clear hcz36_2
          try clear hcz36_3
          try clear hcz36_4
          try clear hcz36_5
          try clear hcz36_6
          try clear hcz36_7
          try clear hcz4_0
          try clear hcz4_1
          try clear hcz4_2
          try clear hcz4_3
          try clear hcz4_4
          try clear hcz4_5
          try clear hcz4_6
          try clear hcz4_7
          try clear hfz10_0
          try clear hfz10_1
          try clear hfz10_2
          try clear hfz10_3
          try clear hfz10_4
          try clear hfz10_5
          try clear hfz10_6
          try clear hfz10_7
          try clear hfz28_0
          try clear hfz28_1
          try clear hfz28_2
          try clear hfz28_3
          try clear hfz28_4
          try clear hfz28_5
          try clear hfz28_6
          try clear hfz28_7
          try clear hfz30_0
          try clear hfz30_1
          try clear hfz30_2
          try clear hfz30_3
          try clear hfz30_4
          try clear hfz30_5
          try clear hfz30_6
          try clear hfz30_7
          try clear hfz32_0
          try clear hfz32_1
          try clear hfz32_2
          try clear hfz32_3
          try clear hfz32_4
          try clear hfz32_5
          try clear hfz32_6
          try clear hfz32_7
          try clear hfz34_0
          try clear hfz34_1
          try clear hfz34_2
          try clear hfz34_3
          try clear hfz34_4
          try clear hfz34_5
          try clear hfz34_6
          try clear hfz34_7
          try clear hfz36_0
          try clear hfz36_1
          try clear hfz36_2
          try clear hfz36_3
          try clear hfz36_4
          try clear hfz36_5
          try clear hfz36_6
          try clear hfz36_7
          try clear hfz4_0
          try clear hfz4_1
          try clear hfz4_2
          try clear hfz4_3
          try clear hfz4_4
          try clear hfz4_5
          try clear hfz4_6
          try clear hfz4_7
          try clear hx358_0
          try clear hx359_0
          try clear hx360_0
          try clear hx361_0
          try clear hx363_0
          try clear hx364_0
          try clear p358
          try clear p359
          try clear p360
          try clear p361
          try clear p363
          try clear p364
          try clear q358
          try clear q359
          try clear q360
          try clear q361
          try clear q363
          try clear q364
          obtain ⟨x7_1, x363007_1, u363007, rfl, HA, HK1, HO_363007, BK357, BK362, HB⟩ := hrel
          cases gk with
          | zero => exact absurd HA.out (by simp [crossbarref05_Read.l0])
          | succ k1 =>
            have H := HA.out
            clear HA
            simp only [crossbarref05_Read.l0] at H
            by_cases c38 : x7_1 < (wrap64 (Int.tmod (rd l0 0) 16))
            · rw [if_pos c38] at H
              have c38b0 : decide (x7_1 < (wrap64 (Int.tmod (rd l0 0) 16))) = true := decide_eq_true c38
              clear c38
              replace H := Option.bind_eq_some_iff.mp H
              obtain ⟨t368, A390, H⟩ := H
              replace H : (if x363007_1.length < 35184372088832 then (crossbarref05_Read.l0 k1 l0 (wrap64 (Int.tmod (rd l0 0) 16)) (wrap64 (x7_1 + 1)) ((((Int.tdiv (rd l0 0) 32) % 256) % 2) == 1) ((((Int.tdiv (rd l0 0) 16) % 256) % 2) == 1) (decide ((rd l0 1) ≥ 128)) (wrap64 (Int.tmod (rd l0 1) 128)) (IntKind.u16.wrap (t365)) t366 t367 (x363007_1 ++ [t368])) else (none)) = some (r1, r2, r3, r4, r5, r6, r7, r8, r9, r10) := H
              have A39 := Aside0.mk A390
              clear A390
              by_cases c40 : x363007_1.length < 35184372088832
              · rw [if_pos c40] at H
                have LMc40 := Aside0.mk c40
                clear c40
                obtain ⟨y369, hy369⟩ : ∃ y_ : List Int, y_ = (x363007_1 ++ [t368]) := ⟨_, rfl⟩
                replace H : (crossbarref05_Read.l0 k1 l0 (wrap64 (Int.tmod (rd l0 0) 16)) (wrap64 (x7_1 + 1)) ((((Int.tdiv (rd l0 0) 32) % 256) % 2) == 1) ((((Int.tdiv (rd l0 0) 16) % 256) % 2) == 1) (decide ((rd l0 1) ≥ 128)) (wrap64 (Int.tmod (rd l0 1) 128)) (IntKind.u16.wrap (t365)) t366 t367 y369) = some (r1, r2, r3, r4, r5, r6, r7, r8, r9, r10) := by first | (rw [hy369]; with_reducible exact H) | (have H2_ := (Option.bind_some _ _).symm.trans H; rw [hy369]; with_reducible exact H2_) | (have H2_ := (Option.bind_some _ _).symm.trans H; with_reducible exact H2_) | with_reducible exact H | (rw [hy369]; exact H) | exact H
                have Ny369 := Aside0.mk hy369
                clear hy369
                have H' := Aside0.mk H
                clear H
                try go_wp2
                replace HO_363007 := Aside0.mk (Kd.R_drew HO_363007.out)
                replace BK357 := Aside0.mk (blk_drew BK357.out)
                replace BK362 := Aside0.mk (blk_drew BK362.out)
                replace HB := Aside0.mk (below_drew1 HB.out)
                refine start_ (n := 11) (S := fun w' => w'.cell? ⟨gb362, 0, none⟩ = some (.bool ((((Int.tdiv (rd l0 0) 32) % 256) % 2) == 1)) ∧ w'.cell? ⟨gb362, 1, none⟩ = some (.bool ((((Int.tdiv (rd l0 0) 16) % 256) % 2) == 1)) ∧ w'.cell? ⟨gb362, 2, none⟩ = some (.bool (decide ((rd l0 1) ≥ 128))) ∧ w'.cell? ⟨gb362, 3, none⟩ = some (.int .i64 (wrap64 (Int.tmod (rd l0 1) 128))) ∧ w'.cell? ⟨gb362, 4, none⟩ = some (.int .u16 (IntKind.u16.wrap (t365))) ∧ w'.cell? ⟨gb362, 5, none⟩ = some (.int .u32 t366) ∧ w'.cell? ⟨gb362, 6, none⟩ = some (.int .u32 t367) ∧ w'.cell? ⟨gb362, 7, none⟩ = some (u363007)) (ds := [10]) #[false, false, false, false, false, false, false, false, false, false, false] (by kernel_rfl) rfl rfl ⟨(blk_cell BK362.out 0).trans rfl, (blk_cell BK362.out 1).trans rfl, (blk_cell BK362.out 2).trans rfl, (blk_cell BK362.out 3).trans rfl, (blk_cell BK362.out 4).trans rfl, (blk_cell BK362.out 5).trans rfl, (blk_cell BK362.out 6).trans rfl, (blk_cell BK362.out 7).trans rfl⟩ (fun hHeld => ?_); refine with_tabW crossbarref05_Read.tab17 crossbarref05_Read.bits17 (fun HT_ HW_ => ?_)
                generalize wr.drew = w41 at HO_363007 BK357 BK362 HB hHeld ⊢
                refine pure_ (i := 0) (N := some 69) (v := ?_) (a' := ?_) #[true, false, false, false, false, false, false, false, false, false, false] rfl rfl (any_of HT_.out (by kernel_rfl)) (fun _ _ _ h => h) (Or.inl ⟨by rfl, ?_⟩) ?_ ?_
                rotate_left
                · intro w'
                  go_simp
                  with_reducible rfl
                rotate_left
                · simp only [Act.put, List.setIfInBounds_toArray, List.set_cons_zero, List.set_cons_succ, i64_w, i32_w]
                  rfl
                refine pure_ (i := 2) (N := some 71) (v := ?_) (a' := ?_) #[true, false, true, false, false, false, false, false, false, false, false] rfl rfl (any_of HT_.out (by kernel_rfl)) (fun _ _ _ h => h) (Or.inl ⟨by rfl, ?_⟩) ?_ ?_
                rotate_left
                · intro w'
                  go_simp
                  with_reducible rfl
                rotate_left
                · simp only [Act.put, List.setIfInBounds_toArray, List.set_cons_zero, List.set_cons_succ, i64_w, i32_w]
                  rfl
                refine pure_ (i := 3) (N := some 72) (v := ?_) (a' := ?_) #[true, false, true, true, false, false, false, false, false, false, false] rfl rfl (any_of HT_.out (by kernel_rfl)) (fun _ _ _ h => h) (Or.inl ⟨by rfl, ?_⟩) ?_ ?_
                rotate_left
                · intro w'
                  go_simp
                  with_reducible rfl
                rotate_left
                · simp only [Act.put, List.setIfInBounds_toArray, List.set_cons_zero, List.set_cons_succ, i64_w, i32_w]
                  rfl
                refine pure_ (i := 4) (N := some 73) (v := ?_) (a' := ?_) #[true, false, true, true, true, false, false, false, false, false, false] rfl rfl (any_of HT_.out (by kernel_rfl)) (fun _ _ _ h => h) (Or.inl ⟨by rfl, ?_⟩) ?_ ?_
                rotate_left
                · intro w'
                  go_simp
                  with_reducible rfl
                rotate_left
                · simp only [Act.put, List.setIfInBounds_toArray, List.set_cons_zero, List.set_cons_succ, i64_w, i32_w]
                  rfl
                refine pure_ (i := 5) (N := some 74) (v := ?_) (a' := ?_) #[true, false, true, true, true, true, false, false, false, false, false] rfl rfl (any_of HT_.out (by kernel_rfl)) (fun _ _ _ h => h) (Or.inl ⟨by rfl, ?_⟩) ?_ ?_
                rotate_left
                · intro w'
                  go_simp
                  with_reducible rfl
                rotate_left
                · simp only [Act.put, List.setIfInBounds_toArray, List.set_cons_zero, List.set_cons_succ, i64_w, i32_w]
                  rfl
                refine take_ (i := 1) (N := some 70) (v := ?_) (a' := ?_) #[true, true, true, true, true, true, false, false, false, false, false] rfl rfl (take_ofW HT_.out HW_.out (by kernel_rfl)) (fun _ _ _ h => h) (Or.inl ⟨by rfl, ?_⟩) hHeld ?_ ?_
                rotate_left
                · rintro w' ⟨s0, s1, s2, s3, s4, s5, s6, s7⟩
                  go_simp
                  with_reducible rfl
                rotate_left
                · simp only [Act.put, List.setIfInBounds_toArray, List.set_cons_zero, List.set_cons_succ, i64_w, i32_w]
                  rfl
                refine one_ (i := 6) (N := some 75) #[true, true, true, true, true, true, true, false, false, false, false] rfl rfl (one_of HT_.out (by kernel_rfl)) (by decide) (fun K hK => ?_)
                refine goes_ Try.func43 (by kernel_rfl) rfl #[.slice (some ad358) l0.length c0, .int .i64 (wrap64 (12 + (wrap64 (4 * x7_1)))), .int .i64 4] (by rfl) rfl rfl (by (try simp only [List.map_toArray, List.map_cons, List.map_nil]); first | done | rfl | (simp only [List.length_drop, List.length_take]; rfl)) ?_
                with_reducible refine (crossbarref05_Num.calls k1 _ _ l0 (wrap64 (12 + (wrap64 (4 * x7_1)))) 4 t368 _ ?side1 ?side2 A39.out).mono ?_
                (case side1 => repeat (first | exact (Kd.C_below HR0.out HB.out) | (with_reducible refine Kd.C_alloc ?_ _) | (with_reducible refine Kd.C_drewN ?_ _) | (with_reducible refine Kd.C_drew ?_)))
                (case side2 => exact HC0.out)
                rintro e w' ⟨rfl, ⟨nd, rfl⟩⟩
                refine ⟨_, rfl, ?_⟩
                refine hK.out _ _ ⟨(blk_cell BK362.out 0).trans rfl, (blk_cell BK362.out 1).trans rfl, (blk_cell BK362.out 2).trans rfl, (blk_cell BK362.out 3).trans rfl, (blk_cell BK362.out 4).trans rfl, (blk_cell BK362.out 5).trans rfl, (blk_cell BK362.out 6).trans rfl, (blk_cell BK362.out 7).trans rfl⟩ (fun hHeld => ?_)
                clear hK K
                refine norm_ (a' := ?_) ?_ ?_
                rotate_left
                · show Act.put _ (some 75) _ = _
                  simp only [Act.put, List.setIfInBounds_toArray, List.set_cons_zero, List.set_cons_succ, i64_w, i32_w]
                  rfl
                refine one_ (i := 7) (N := some 76) #[true, true, true, true, true, true, true, true, false, false, false] rfl rfl (one_of HT_.out (by kernel_rfl)) (by decide) (fun K hK => ?_)
                refine value_ (w1 := ?_) (v := ?_) (by rfl) rfl ?_ ?_
                rotate_left 2
                · go_simp
                  constructor
                  · rfl
                  rfl
                refine hK.out _ _ ⟨(blk_cell (blk_alloc BK362.out _) 0).trans rfl, (blk_cell (blk_alloc BK362.out _) 1).trans rfl, (blk_cell (blk_alloc BK362.out _) 2).trans rfl, (blk_cell (blk_alloc BK362.out _) 3).trans rfl, (blk_cell (blk_alloc BK362.out _) 4).trans rfl, (blk_cell (blk_alloc BK362.out _) 5).trans rfl, (blk_cell (blk_alloc BK362.out _) 6).trans rfl, (blk_cell (blk_alloc BK362.out _) 7).trans rfl⟩ (fun hHeld => ?_)
                clear hK K
                refine norm_ (a' := ?_) ?_ ?_
                rotate_left
                · show Act.put _ (some 76) _ = _
                  simp only [Act.put, List.setIfInBounds_toArray, List.set_cons_zero, List.set_cons_succ, i64_w, i32_w]
                  rfl
                refine one_ (i := 8) (N := some 77) #[true, true, true, true, true, true, true, true, true, false, false] rfl rfl (one_of HT_.out (by kernel_rfl)) (by decide) (fun K hK => ?_)
                refine Kd.R_append_step (Kd.int .u32) (w0 := w) w.heap.size (by rfl) (.tmp 70) (.tmp 76) 41 40 (.int .u32 0) 4 rfl Try.underlying41 info40 rfl (by decide) (by omega) u363007 x363007_1 t368 [.int .u32 t368] (fun _ => True) (fun _ => False) rfl rfl ?aP (fun _ hk => hk.elim) ?aF ?aO ?aB ?aS ?aL ?_
                (case aP => exact rfl)
                (case aB => exact (pB HB))
                (case aF => exact (fun _ _ => trivial))
                (case aO => exact (pR HO_363007))
                (case aS => exact (below_size (pB HB)))
                (case aL => have := LMc40.out; omega)
                intro v370 w42 ho hb hg hat
                rw [← Ny369.out] at ho
                replace BK357 := Aside0.mk (blk_grown (g := gb357) (o := .cells #[.bool false, .bool false, .bool false, .int .i64 0, .int .u16 0, .int .u32 0, .int .u32 0, .slice none 0 0] 43 (0, 0)) (pk BK357) hg (Kd.R_ne HO_363007.out BK357.out (by decide)))
                replace BK362 := Aside0.mk (blk_grown (g := gb362) (o := .cells #[.bool ((((Int.tdiv (rd l0 0) 32) % 256) % 2) == 1), .bool ((((Int.tdiv (rd l0 0) 16) % 256) % 2) == 1), .bool (decide ((rd l0 1) ≥ 128)), .int .i64 (wrap64 (Int.tmod (rd l0 1) 128)), .int .u16 (IntKind.u16.wrap (t365)), .int .u32 t366, .int .u32 t367, u363007] 43 (0, 0)) (pk BK362) hg (Kd.R_ne HO_363007.out BK362.out (by decide)))
                replace HB := Aside0.mk (hb)
                have HO371 := Aside0.mk (ho)
                clear HO_363007
                clear ho hb hg hat
                obtain ⟨Ao43, co43, eo43⟩ := Kd.R_slice HO371.out
                (first | subst eo43 | (injection eo43 with f1_ f2_ f3_; have f4_ := f1_.symm; have f5_ := f3_.symm; clear f1_ f2_ f3_; subst f4_; subst f5_))
                refine hK.out _ _ ⟨(blk_cell BK362.out 0).trans rfl, (blk_cell BK362.out 1).trans rfl, (blk_cell BK362.out 2).trans rfl, (blk_cell BK362.out 3).trans rfl, (blk_cell BK362.out 4).trans rfl, (blk_cell BK362.out 5).trans rfl, (blk_cell BK362.out 6).trans rfl, (blk_cell BK362.out 7).trans rfl⟩ (fun hHeld => ?_)
                clear hK K
                refine norm_ (a' := ?_) ?_ ?_
                rotate_left
                · show Act.put _ (some 77) _ = _
                  simp only [Act.put, List.setIfInBounds_toArray, List.set_cons_zero, List.set_cons_succ, i64_w, i32_w]
                  rfl
                refine pure_ (i := 9) (N := some 78) (v := ?_) (a' := ?_) #[true, true, true, true, true, true, true, true, true, true, false] rfl rfl (any_of HT_.out (by kernel_rfl)) (fun _ _ _ h => h) (Or.inl ⟨by rfl, ?_⟩) ?_ ?_
                rotate_left
                · intro w'
                  go_simp
                  with_reducible rfl
                rotate_left
                · simp only [Act.put, List.setIfInBounds_toArray, List.set_cons_zero, List.set_cons_succ, i64_w, i32_w]
                  rfl
                refine last_ (i := 10) (N := none) #[true, true, true, true, true, true, true, true, true, true, true] rfl rfl (one_of HT_.out (by kernel_rfl)) (by decide) (fun K hK => ?_)
                have hs44 : w42.cell? ⟨gb362, 7, none⟩ = some (u363007) := (blk_cell BK362.out 7).trans rfl
                have hfs44 := blk_frozen BK362.out 7
                have hns44_0 := NB357_362.out
                have hms44_0 := NB362_357.out
                refine skip_ (w1 := ?_) (by rfl) rfl ?_ ?_
                rotate_left
                · go_simp
                  rfl
                refine hK.out _ _ ?_
                clear hK K
                refine done_ (done_of HT_.out (by kernel_rfl)) ?_
                try go_wp2
                go_roundg k1
                case measure => have := HK1.out; omega
                case rel => exact ⟨(wrap64 (x7_1 + 1)), (y369), (.slice Ao43 y369.length co43), (by first | rfl | (simp; done) | (simp [*]; done)), H', ⟨by have := HK1.out; omega⟩, ⟨by (with_reducible repeat (first | apply Kd.R_alloc | apply Kd.R_drewN | apply Kd.R_drew)); exact Kd.R_mono (Kd.R_far (p := ⟨gb362, 7, none⟩) (Kd.R_types HO371.out BK362.out (by decide)) (fun _ hk => hk.2) (.slice Ao43 y369.length co43)) (fun _ hk => trivial)⟩, ⟨by (with_reducible repeat (first | refine blk_drewN ?_ _ | refine blk_drew ?_ | refine blk_alloc ?_ _)); refine blk_far ?_ NB357_362.out _; (with_reducible repeat (first | refine blk_drewN ?_ _ | refine blk_drew ?_ | refine blk_alloc ?_ _)); exact BK357.out⟩, ⟨by (with_reducible repeat (first | refine blk_drewN ?_ _ | refine blk_drew ?_ | refine blk_alloc ?_ _)); refine blk_put (cs := #[.bool ((((Int.tdiv (rd l0 0) 32) % 256) % 2) == 1), .bool ((((Int.tdiv (rd l0 0) 16) % 256) % 2) == 1), .bool (decide ((rd l0 1) ≥ 128)), .int .i64 (wrap64 (Int.tmod (rd l0 1) 128)), .int .u16 (IntKind.u16.wrap (t365)), .int .u32 t366, .int .u32 t367, u363007]) ?_ 7 _ rfl; (with_reducible repeat (first | refine blk_drewN ?_ _ | refine blk_drew ?_ | refine blk_alloc ?_ _)); exact BK362.out⟩, ⟨by repeat (first | (with_reducible first | exact HB.out | apply below_alloc | apply pw_below_drewN | apply below_drew1 | refine below_set ?_ GE357.out | refine below_set ?_ GE362.out) | exact HB.out)⟩⟩
              rw [if_neg c40] at H
              exact absurd H (by simp)
            rw [if_neg c38] at H
            have c38b0 : decide (x7_1 < (wrap64 (Int.tmod (rd l0 0) 16))) = false := decide_eq_false c38
            clear c38
            simp only [Option.some.injEq, Prod.mk.injEq] at H
            obtain ⟨rfl, rfl, rfl, rfl, rfl, rfl, rfl, rfl, rfl, rfl⟩ := H
            have hnb45 := NB362_357.out
            have hnc45 := NB357_362.out
            obtain ⟨hcz46_0, hcz46_1, hcz46_2, hcz46_3, hcz46_4, hcz46_5, hcz46_6, hcz46_7, hfz46_0, hfz46_1, hfz46_2, hfz46_3, hfz46_4, hfz46_5, hfz46_6, hfz46_7⟩ := bc8 BK362.out
            obtain ⟨hcz47_0, hcz47_1, hcz47_2, hcz47_3, hcz47_4, hcz47_5, hcz47_6, hcz47_7, hfz47_0, hfz47_1, hfz47_2, hfz47_3, hfz47_4, hfz47_5, hfz47_6, hfz47_7⟩ := bc8 BK357.out
            obtain ⟨Ao48, co48, eo48⟩ := Kd.R_slice HO_363007.out
            subst eo48
            go_wp2_with (first | ((with_reducible refine gate_store (t := 43) (p := 2) rfl ?_); refine store_event (t := 43) (p := 2) (v := ?vo_w49) (w1 := ((((((((wr.setCell ⟨gb357, 0, none⟩ (.bool ((((Int.tdiv (rd l0 0) 32) % 256) % 2) == 1))).setCell ⟨gb357, 1, none⟩ (.bool ((((Int.tdiv (rd l0 0) 16) % 256) % 2) == 1))).setCell ⟨gb357, 2, none⟩ (.bool (decide ((rd l0 1) ≥ 128)))).setCell ⟨gb357, 3, none⟩ (.int .i64 (wrap64 (Int.tmod (rd l0 1) 128)))).setCell ⟨gb357, 4, none⟩ (.int .u16 (IntKind.u16.wrap (t365)))).setCell ⟨gb357, 5, none⟩ (.int .u32 t366)).setCell ⟨gb357, 6, none⟩ (.int .u32 t367)).setCell ⟨gb357, 7, none⟩ (.slice Ao48 x363007_1.length co48))) ?hg ?ho ?hn ?hr ?_; (case ho => rfl); (case hg => rfl); (case hn => rfl); (case hr => first | (go_simp; done) | (go_simp; rfl)); intro w49 hw; replace HO_363007 := rfE hw HO_363007 BK357; replace BK357 : Aside0 (w49.heap[gb357]? = some (.cells #[.bool ((((Int.tdiv (rd l0 0) 32) % 256) % 2) == 1), .bool ((((Int.tdiv (rd l0 0) 16) % 256) % 2) == 1), .bool (decide ((rd l0 1) ≥ 128)), .int .i64 (wrap64 (Int.tmod (rd l0 1) 128)), .int .u16 (IntKind.u16.wrap (t365)), .int .u32 t366, .int .u32 t367, .slice Ao48 x363007_1.length co48] 43 (0, 0))) := ⟨by rw [hw]; apply puts8; exact BK357.out⟩; replace BK362 := bfE hw BK362 NB362_357; replace HB := bsE hw HB GE357; clear hw))
            refine bodyPost_ret (results_ctt rfl _ _ gb357 43 #[.bool ((((Int.tdiv (rd l0 0) 32) % 256) % 2) == 1), .bool ((((Int.tdiv (rd l0 0) 16) % 256) % 2) == 1), .bool (decide ((rd l0 1) ≥ 128)), .int .i64 (wrap64 (Int.tmod (rd l0 1) 128)), .int .u16 (IntKind.u16.wrap (t365)), .int .u32 t366, .int .u32 t367, .slice Ao48 x363007_1.length co48] (0, 0) _ rfl (pk BK357) Try.underlying43 rfl (by kernel_rfl)) rfl ?_
            exact ⟨_, by first | rfl | (simp [errW_none, errW_some] <;> rfl) | (simp [*, errW_none, errW_some] <;> rfl), by (with_reducible repeat (first | apply Kd.R_alloc | apply Kd.R_drewN | apply Kd.R_drew)); exact HO_363007.out, by repeat (first | (with_reducible first | exact HB.out | apply below_alloc | apply pw_below_drewN | apply below_drew1 | refine below_set ?_ GE357.out | refine below_set ?_ GE362.out) | exact HB.out)⟩
      rw [if_neg c12] at H
      exact absurd H (by simp)
    rw [if_neg c7] at H
    have c7b0 : (((Int.tdiv (rd l0 0) 64) % 256) == 2) = false := beq_eq_false_iff_ne.mpr c7
    have c7b1 : (((Int.tdiv (rd l0 0) 64) % 256) != 2) = true := bne_iff_ne.mpr c7
    simp only [Option.some.injEq, Prod.mk.injEq] at H
    obtain ⟨rfl, rfl, rfl, rfl, rfl, rfl, rfl, rfl, rfl, rfl⟩ := H
    go_enter Try.func42, Try.ntmps42
    go_wp2_with (first | ((with_reducible refine gate_dst (N := 2) rfl ?_); refine box_event ?hg (N := 2) ?hd (cs := #[.bool false, .bool false, .bool false, .int .i64 0, .int .u16 0, .int .u32 0, .int .u32 0, .slice none 0 0]) (t := 43) ?hr ?_; (case hd => rfl); (case hg => rfl); (case hr => first | (go_simp; done) | (go_simp; rfl)); intro gb357 hg w50 hbox hb; have n0_ := bstE HB hb; have BK357 := Aside0.mk (hbox); have GW357 := geE hg HB; have GE357 := geE hg HB; clear HB; have HB := n0_; clear n0_; clear hb hbox hg; have p358 : 0 ≤ (0 : Int) := (by omega); have q358 : 0 < (l0.length : Int) := of_decide_eq_true (by first | (with_reducible assumption) | assumption); obtain ⟨ad358, e358, hx358_0⟩ := Kd.at_int HR0.out 0 p358 q358; cases e358; have qi358 : (0 < l0.length) = True := eq_true (by omega); (try rw [show ((0 : Int)).toNat = 0 from rfl] at hx358_0); (try rw [Addr.add_zero'] at hx358_0); replace hx358_0 := (HB.out.cell (World.block_lt_of_cell? w _ hx358_0)).trans hx358_0; replace p358 := eq_true p358; replace q358 := eq_true q358; obtain ⟨hcz51_0, hcz51_1, hcz51_2, hcz51_3, hcz51_4, hcz51_5, hcz51_6, hcz51_7, hfz51_0, hfz51_1, hfz51_2, hfz51_3, hfz51_4, hfz51_5, hfz51_6, hfz51_7⟩ := bc8 BK357.out) | ((with_reducible refine gate_store (t := 43) (p := 2) rfl ?_); refine store_event (t := 43) (p := 2) (v := ?vo_w52) (w1 := ((((((((w50.setCell ⟨gb357, 0, none⟩ (.bool false)).setCell ⟨gb357, 1, none⟩ (.bool false)).setCell ⟨gb357, 2, none⟩ (.bool false)).setCell ⟨gb357, 3, none⟩ (.int .i64 0)).setCell ⟨gb357, 4, none⟩ (.int .u16 0)).setCell ⟨gb357, 5, none⟩ (.int .u32 0)).setCell ⟨gb357, 6, none⟩ (.int .u32 0)).setCell ⟨gb357, 7, none⟩ (.slice none 0 0))) ?hg ?ho ?hn ?hr ?_; (case ho => rfl); (case hg => rfl); (case hn => rfl); (case hr => first | (go_simp; done) | (go_simp; rfl)); intro w52 hw; replace BK357 : Aside0 (w52.heap[gb357]? = some (.cells #[.bool false, .bool false, .bool false, .int .i64 0, .int .u16 0, .int .u32 0, .int .u32 0, .slice none 0 0] 43 (0, 0))) := ⟨by rw [hw]; apply puts8; exact BK357.out⟩; replace HB := bsE hw HB GE357; clear hw))
    refine bodyPost_ret (results_ctt rfl _ _ gb357 43 #[.bool false, .bool false, .bool false, .int .i64 0, .int .u16 0, .int .u32 0, .int .u32 0, .slice none 0 0] (0, 0) _ rfl (pk BK357) Try.underlying43 rfl (by kernel_rfl)) rfl ?_
    exact ⟨_, by first | rfl | (simp [errW_none, errW_some] <;> rfl) | (simp [*, errW_none, errW_some] <;> rfl), by first | exact Kd.R_nil _ _ _ _ _ | exact Kd.N_nil _ _ _ _ _ | exact Kd.V_nil _ _ _ _ _ | exact Kd.Q_nil _ _ _ _ _ | exact Kd.S_nil _ _ _ _ _, by repeat (first | (with_reducible first | exact HB.out | apply below_alloc | apply pw_below_drewN | apply below_drew1 | refine below_set ?_ GE357.out) | exact HB.out)⟩
  rw [if_neg c6] at H
  exact absurd H (by simp)
end Go.Proofs.Ytcbdgknfkoodoaa.F
namespace Go.Proofs.Ytcbdgknfkoodoaa.F
open Go.RowKit Go.Proofs.YtcbdgknfkoodoaaW.PrintWords Go.Proofs.YtcbdgknfkoodoaaW.PrintLast Go.Proofs.YtcbdgknfkoodoaaW.PrintMore
attribute [local go_sem] max2_int min2_int max_two min_two max_three min_three max_four min_four   
set_option linter.unusedVariables false
set_option linter.unusedSimpArgs false
def crossbarref03_Trail.f (l0 : List Int) : Option (Int) := if (l0.length : Int) = 0 then (some 0) else (if 0 ≤ (wrap64 ((l0.length : Int) - 1)) then (if (wrap64 ((l0.length : Int) - 1)) < (l0.length : Int) then (if (wrap64 (rd l0 (wrap64 ((l0.length : Int) - 1)))) > (l0.length : Int) then (some 0) else (some (wrap64 (rd l0 (wrap64 ((l0.length : Int) - 1)))))) else (none)) else (none))
set_option maxHeartbeats 8000000 in
set_option maxRecDepth 100000 in
theorem crossbarref03_Trail.calls (A0 : Option Addr) (c0 : Nat) (l0 : List Int) (r : Int) (w : World) (hr0 : Kd.C (Kd.int .u8) w A0 l0.length l0) (hc0 : l0.length ≤ c0) (h : crossbarref03_Trail.f l0 = some r) :
    Calls Try.prog 44 #[.slice A0 l0.length c0] w fun e w' => e = .returned (.int .i64 r) ∧ Drawn0 w w' := by
  have HR0 := Aside0.mk hr0
  have HC0 := Aside0.mk hc0
  clear hr0 hc0
  have H : (if (l0.length : Int) = 0 then (some 0) else (if 0 ≤ (wrap64 ((l0.length : Int) - 1)) then (if (wrap64 ((l0.length : Int) - 1)) < (l0.length : Int) then (if (wrap64 (rd l0 (wrap64 ((l0.length : Int) - 1)))) > (l0.length : Int) then (some 0) else (some (wrap64 (rd l0 (wrap64 ((l0.length : Int) - 1)))))) else (none)) else (none))) = some r := h
  clear h
  by_cases c2 : (l0.length : Int) = 0
  · rw [if_pos c2] at H
    have c2b0 : ((l0.length : Int) == 0) = true := beq_iff_eq.mpr c2
    have c2b1 : ((l0.length : Int) != 0) = false := bne_eq_false_iff_eq.mpr c2
    clear c2
    obtain rfl := Option.some.inj H
    go_enter Try.func44, Try.ntmps44
    go_wp2
    go_ret
    exact ⟨by first | rfl | (simp; done) | (simp [*]; done), by repeat (first | exact Drawn0.refl _ | apply Drawn0.step)⟩
  rw [if_neg c2] at H
  have c2b0 : ((l0.length : Int) == 0) = false := beq_eq_false_iff_ne.mpr c2
  have c2b1 : ((l0.length : Int) != 0) = true := bne_iff_ne.mpr c2
  have c2b2 : ¬ (l0 = []) := fun h_ => c2 (by rw [h_]; rfl)
  obtain ⟨ji3, hji3⟩ : ∃ j_ : Int, (wrap64 ((l0.length : Int) - 1)) = j_ := ⟨_, rfl⟩
  replace H : (if 0 ≤ (ji3) then (if (ji3) < (l0.length : Int) then (if (wrap64 (rd l0 (ji3))) > (l0.length : Int) then (some 0) else (some (wrap64 (rd l0 (ji3))))) else (none)) else (none)) = some r := by first | (rw [hji3] at H; exact H) | (simp only [hji3] at H ⊢; exact H)
  have hji3w : (IntKind.i64.wrap ((l0.length : Int) - 1)) = ji3 := (i64_w _).trans hji3
  by_cases c4 : 0 ≤ (ji3)
  · rw [if_pos c4] at H
    have c4b0 : decide (0 ≤ (ji3)) = true := decide_eq_true c4
    clear c4
    by_cases c5 : (ji3) < (l0.length : Int)
    · rw [if_pos c5] at H
      have c5b0 : decide ((ji3) < (l0.length : Int)) = true := decide_eq_true c5
      clear c5
      by_cases c6 : (wrap64 (rd l0 (ji3))) > (l0.length : Int)
      · rw [if_pos c6] at H
        have c6b0 : decide ((l0.length : Int) < (wrap64 (rd l0 (ji3)))) = true := decide_eq_true c6
        clear c6
        obtain rfl := Option.some.inj H
        have p372 : 0 ≤ ((ji3) : Int) := of_decide_eq_true (by first | (with_reducible assumption) | assumption)
        have q372 : (ji3) < (l0.length : Int) := of_decide_eq_true (by first | (with_reducible assumption) | assumption)
        obtain ⟨ad372, e372, hx372_0⟩ := Kd.at_int HR0.out (ji3) p372 q372
        cases e372
        replace p372 := eq_true p372
        replace q372 := eq_true q372
        go_enter Try.func44, Try.ntmps44
        go_wp2
        go_ret
        exact ⟨by first | rfl | (simp; done) | (simp only [← hji3] <;> (first | rfl | simp)) | (simp [*]; done), by repeat (first | exact Drawn0.refl _ | apply Drawn0.step)⟩
      rw [if_neg c6] at H
      have c6b0 : decide ((l0.length : Int) < (wrap64 (rd l0 (ji3)))) = false := decide_eq_false c6
      clear c6
      obtain rfl := Option.some.inj H
      have p372 : 0 ≤ ((ji3) : Int) := of_decide_eq_true (by first | (with_reducible assumption) | assumption)
      have q372 : (ji3) < (l0.length : Int) := of_decide_eq_true (by first | (with_reducible assumption) | assumption)
      obtain ⟨ad372, e372, hx372_0⟩ := Kd.at_int HR0.out (ji3) p372 q372
      cases e372
      replace p372 := eq_true p372
      replace q372 := eq_true q372
      go_enter Try.func44, Try.ntmps44
      go_wp2
      go_ret
      exact ⟨by first | rfl | (simp; done) | (simp only [← hji3] <;> (first | rfl | simp)) | (simp [*]; done), by repeat (first | exact Drawn0.refl _ | apply Drawn0.step)⟩
    rw [if_neg c5] at H
    exact absurd H (by simp)
  rw [if_neg c4] at H
  exact absurd H (by simp)
end Go.Proofs.Ytcbdgknfkoodoaa.F
