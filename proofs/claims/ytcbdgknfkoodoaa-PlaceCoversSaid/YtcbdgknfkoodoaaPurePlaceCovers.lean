/- The places of bytes that are a packet's cover all of them: the law's plain statement. For every list of bytes. -/
import Derived.Test.YtcbdgknfkoodoaaSd
import Derived.Test.YtcbdgknfkoodoaaF14
import Derived.Test.YtcbdgknfkoodoaaF15
import Derived.Test.YtcbdgknfkoodoaaF26
namespace Go.Proofs.Ytcbdgknfkoodoaa.Pure
open Go.RowKit Go.Proofs.Ytcbdgknfkoodoaa.F Go.Proofs.YtcbdgknfkoodoaaW.PrintWords Go.Proofs.Ytcbdgknfkoodoaa.S
set_option linter.unusedVariables false
set_option linter.unusedSimpArgs false

theorem awake07 : Ev (fun k => crossbarlaw07_awake.f k) true := Ev.of crossbarlaw07_awake.mono (k := 60) (by decide +kernel)
theorem mk_mem {x : List (Int × Int)} (hp : Pos x) : ∀ a, ∀ p ∈ mk a x, a ≤ p.f1 ∧ 0 < p.f2 ∧ p.f1 + p.f2 ≤ a + tot x := by
  induction x with
  | nil => intro a p h; cases h
  | cons q r ih =>
    intro a p h
    have hq := hp q (by simp)
    have hr : Pos r := fun z hz => hp z (by simp [hz])
    have ht := tot_ge hr
    rcases List.mem_cons.1 h with rfl | h
    · simp only [tot]; omega
    · have := ih hr (a + q.2) p h
      simp only [tot]
      omega
theorem own_no {a : Int} {p : S32} (h0 : 0 ≤ p.f1) (h1 : 0 < p.f2) (h2 : p.f1 + p.f2 ≤ 1000000) (ha : 0 ≤ a) (ha1 : a ≤ 1000000) (h : p.f1 + p.f2 ≤ a) : ownB a p = false := by
  unfold ownB
  rw [u64w ha (by omega), u64w h0 (by omega), u64w (by omega) (by omega), u64w (by omega) (by omega), show decide (a - p.f1 < p.f2) = false from decide_eq_false (by omega)]
  simp
theorem own_yes {a : Int} {p : S32} (h0 : 0 ≤ p.f1) (h1 : 0 < p.f2) (h2 : p.f1 + p.f2 ≤ 1000000) (ha1 : a ≤ 1000000) (h : p.f1 ≤ a) (h3 : a - p.f1 < p.f2) : ownB a p = true := by
  unfold ownB
  rw [u64w (n := a) (by omega) (by omega), u64w h0 (by omega), u64w (by omega) (by omega), u64w (by omega) (by omega)]
  simp [*]
theorem own_neg {p : S32} (h0 : 0 ≤ p.f1) : ownB (-1) p = false := by
  unfold ownB
  rw [decide_eq_false (show ¬ p.f1 ≤ -1 by omega)]
  rfl
theorem find_none {α : Type} {q : α → Bool} {l : List α} (h : ∀ x ∈ l, q x = false) : l.find? q = none := List.find?_eq_none.2 (fun x hx => by rw [h x hx]; decide)
theorem covers_loop {l : List Int} {x : List (Int × Int)} (hp : Pos x) (ht : tot x = l.length) (hl : l.length ≤ 70000) : ∀ suf pre, x = pre ++ suf → Ev (fun k => crossbarlaw07_PlaceCovers.l0 k l (mk 0 x) 0 (tot pre) (pre.length : Int)) true := by
  have hg := tot_ge hp
  have hlen := mk_length x 0
  intro suf
  induction suf with
  | nil =>
    intro pre h
    rw [List.append_nil] at h
    subst h
    refine Ev.step (f := fun _ => some true) (fun k => ?_) (Ev.now _)
    have o1 : place_Owner.f (mk 0 x) (tot x) = some (-1) := by
      unfold place_Owner.f
      rw [find_none (fun p hm => by have := mk_mem hp 0 p hm; exact own_no (by omega) (by omega) (by omega) (by omega) (by omega) (by omega))]
      rfl
    have o2 : place_Owner.f (mk 0 x) (-1) = some (-1) := by
      unfold place_Owner.f
      rw [find_none (fun p hm => by have := mk_mem hp 0 p hm; exact own_neg (by omega))]
      rfl
    rw [crossbarlaw07_PlaceCovers.l0, if_neg (by omega), if_pos rfl, if_pos ht, o1]
    simp only [ob]
    rw [if_pos trivial, o2]
    simp only [ob]
    rfl
  | cons s r ih =>
    intro pre h
    subst h
    have hps : Pos pre := fun z hz => hp z (by simp [hz])
    have hpr : Pos r := fun z hz => hp z (by simp [hz])
    have hs := hp s (by simp)
    have g1 := tot_ge hps
    have g2 := tot_ge hpr
    rw [tot_append] at ht
    simp only [tot] at ht
    have he : rd_T32 (mk 0 (pre ++ s :: r)) (pre.length : Int) = ⟨s.1, tot pre, s.2⟩ := by
      unfold rd_T32
      rw [mk_append, Int.toNat_natCast, List.getD_eq_getElem?_getD, List.getElem?_append_right (by rw [mk_length]; omega)]
      simp [mk, mk_length]
    have ho : place_Owner.f (mk 0 (pre ++ s :: r)) (tot pre) = some s.1 := by
      unfold place_Owner.f
      rw [mk_append, List.find?_append, find_none (fun p hm => by have := mk_mem hps 0 p hm; exact own_no (by omega) (by omega) (by omega) (by omega) (by omega) (by omega))]
      simp only [mk, Option.none_or, Int.zero_add]
      rw [List.find?_cons_of_pos (by exact own_yes (by simp; omega) (by simpa using hs) (by simp; omega) (by omega) (by simp) (by simpa using hs))]
      rfl
    refine Ev.step (f := fun k => crossbarlaw07_PlaceCovers.l0 k l (mk 0 (pre ++ s :: r)) 0 (tot (pre ++ [s])) ((pre ++ [s]).length : Int)) (fun k => ?_) (ih (pre ++ [s]) (by simp))
    have hll : (pre ++ s :: r).length = pre.length + (r.length + 1) := by simp
    conv => lhs; rw [crossbarlaw07_PlaceCovers.l0]
    rw [if_pos (by omega), if_pos (by omega), he]
    dsimp only
    rw [if_pos rfl, if_neg (by omega), w64 (by omega) (by omega), if_neg (by omega), ho]
    simp only [ob]
    rw [if_pos trivial, w64 (n := tot pre + s.2) (by omega) (by omega), w64 (by omega) (by omega), tot_append]
    simp only [tot, List.length_append, List.length_singleton, Int.add_zero]
    rfl
theorem PlaceCovers : crossbarlaw07_PlaceCovers.Pure := by
  intro l _ _ hw
  have hb := byt_of_wf hw
  refine Ev.rounds ?_
  simp only [crossbarlaw07_PlaceCovers.f]
  refine Ev.bind awake07 ?_
  refine Ev.pos rfl ?_
  by_cases c : l.length > 70000
  · exact Ev.pos (by omega) (Ev.now _)
  · refine Ev.neg (by omega) ?_
    refine Ev.bind (of_ev hb) (Ev.bind (read_ev hb) ?_)
    unfold ofM
    by_cases c1 : (openM l).2.2 = 0
    · obtain ⟨hf, ht⟩ := open_fit hb c1
      rw [if_pos c1]
      refine Ev.pos rfl ?_
      dsimp only [pflat]
      rw [c1]
      exact covers_loop (pos_segs _) ht (by omega) (segs (openM l).1) [] rfl
    · rw [if_neg c1]
      refine Ev.neg c1 (Ev.pos rfl (Ev.eq fun k => rfl))
end Go.Proofs.Ytcbdgknfkoodoaa.Pure
