/- What the program's functions that join bytes and read packets answer, in plain Lean. For bytes, of at most 2^47 - 4096. -/
import Derived.Test.YtcbdgknfkoodoaaSb
import Derived.Test.YtcbdgknfkoodoaaF6
import Derived.Test.YtcbdgknfkoodoaaF7
import Derived.Test.YtcbdgknfkoodoaaF8
import Derived.Test.YtcbdgknfkoodoaaF9
import Derived.Test.YtcbdgknfkoodoaaF10
namespace Go.Proofs.Ytcbdgknfkoodoaa.S
open Go.RowKit Go.Proofs.YtcbdgknfkoodoaaW.PrintWords Go.Proofs.Ytcbdgknfkoodoaa.F
set_option linter.unusedVariables false
set_option linter.unusedSimpArgs false

theorem rdL2 {ls : List (List Int)} {i : Nat} (h : i < ls.length) : rd_L2 ls (i : Int) = ls[i] := by
  simp [rd_L2, h]
theorem flat_take (ls : List (List Int)) (i : Nat) (h : i < ls.length) : (ls.take (i + 1)).flatten = (ls.take i).flatten ++ ls[i] := by
  rw [List.take_succ_eq_append_getElem h, List.flatten_append]
  simp
theorem flat_le (ls : List (List Int)) (i : Nat) : (ls.take i).flatten.length ≤ ls.flatten.length := by
  conv => rhs; rw [← List.take_append_drop i ls, List.flatten_append, List.length_append]
  omega
theorem join1 {ls : List (List Int)} (hn : ls.length ≤ 140737488351232) (hl : ls.flatten.length ≤ 140737488351232) : ∀ (d i : Nat), i + d = ls.length → Ev (fun k => octet_Join.l1 k (ls.take i).flatten ls (ls.length : Int) (i : Int)) ls.flatten := by
  intro d
  induction d with
  | zero =>
    intro i hi
    refine Ev.step (f := fun _ => some ls.flatten) (fun k => ?_) (Ev.now _)
    simp only [octet_Join.l1]
    rw [if_neg (by omega), List.take_of_length_le (by omega)]
  | succ d ih =>
    intro i hi
    have hf := flat_take ls i (by omega)
    have hle := flat_le ls (i + 1)
    rw [hf, List.length_append] at hle
    refine Ev.step (f := fun k => octet_Join.l1 k (ls.take (i + 1)).flatten ls (ls.length : Int) ((i + 1 : Nat) : Int)) (fun k => ?_) (ih (i + 1) (by omega))
    conv => lhs; unfold octet_Join.l1
    rw [if_pos (by omega), if_pos (by omega), if_pos (by omega), rdL2 (show i < ls.length by omega), if_pos (by omega), w64 (by omega) (by omega), hf]
    rfl
theorem join0 {ls : List (List Int)} (hn : ls.length ≤ 140737488351232) (hl : ls.flatten.length ≤ 140737488351232) : ∀ (d i : Nat), i + d = ls.length → Ev (fun k => octet_Join.l0 k ls ((ls.take i).flatten.length : Int) ls (ls.length : Int) (i : Int)) ls.flatten := by
  intro d
  induction d with
  | zero =>
    intro i hi
    refine Ev.step (f := fun k => octet_Join.l1 k (ls.take 0).flatten ls (ls.length : Int) ((0 : Nat) : Int)) (fun k => ?_) (join1 hn hl ls.length 0 (by omega))
    conv => lhs; unfold octet_Join.l0
    have := flat_le ls i
    rw [if_neg (by omega), if_pos (by omega), if_pos (by omega)]
    rfl
  | succ d ih =>
    intro i hi
    have hf := flat_take ls i (by omega)
    have hle := flat_le ls (i + 1)
    rw [hf, List.length_append] at hle
    refine Ev.step (f := fun k => octet_Join.l0 k ls ((ls.take (i + 1)).flatten.length : Int) ls (ls.length : Int) ((i + 1 : Nat) : Int)) (fun k => ?_) (ih (i + 1) (by omega))
    conv => lhs; unfold octet_Join.l0
    rw [if_pos (by omega), if_pos (by omega), if_pos (by omega), rdL2 (show i < ls.length by omega), w64 (n := (i : Int) + 1) (by omega) (by omega), w64 (by omega) (by omega), hf, List.length_append]
    rfl
theorem join_ev {ls : List (List Int)} (hn : ls.length ≤ 140737488351232) (hl : ls.flatten.length ≤ 140737488351232) : Ev (fun k => octet_Join.f k ls) ls.flatten :=
  Ev.congr (fun k => by unfold octet_Join.f; rfl) (join0 hn hl ls.length 0 (by omega))
theorem part_ev {l : List Int} (hl : l.length ≤ 140737488351232) : Ev (fun k => packet_part.f k l) l := by
  by_cases h : l.length = 0
  · obtain rfl := List.eq_nil_of_length_eq_zero h
    refine Ev.eq fun k => ?_
    unfold packet_part.f
    rw [if_pos (by simp)]
  · have e := join_ev (ls := [l]) (by simp) (by simpa using hl)
    refine Ev.congr (f := fun k => (octet_Join.f k [l]).bind fun t => some t) (fun k => ?_) ?_
    · unfold packet_part.f
      rw [if_neg (by omega)]
    · refine Ev.bind e (Ev.eq fun k => ?_)
      simp
/-- How many bytes a trailer has; 0: there is none. -/
def trailM (l : List Int) : Int := if l.length = 0 then 0 else if rd l ((l.length : Int) - 1) < 1 ∨ (l.length : Int) < rd l ((l.length : Int) - 1) then 0 else rd l ((l.length : Int) - 1)
theorem trailM_le (l : List Int) (h : trailM l ≠ 0) : 1 ≤ trailM l ∧ trailM l ≤ l.length := by
  unfold trailM at h ⊢
  split at h
  · exact absurd rfl h
  · split at h
    · exact absurd rfl h
    · rename_i h1 h2
      rw [if_neg h1, if_neg h2]
      omega
theorem trail_eq {l : List Int} (hb : Byt l) (hl : l.length ≤ 140737488351232) : pad_Trail.f l = some (if trailM l = 0 then (0, 5) else (trailM l, 0)) := by
  have hr := brd hb ((l.length : Int) - 1)
  unfold pad_Trail.f trailM
  by_cases c : l.length = 0
  · rw [if_pos (by omega), if_pos c, if_pos rfl]
  · rw [if_neg (by omega), w64 (n := (l.length : Int) - 1) (by omega) (by omega), if_pos (by omega), if_pos (by omega), w64 (by omega) (by omega), if_neg c]
    by_cases c1 : rd l ((l.length : Int) - 1) < 1
    · rw [if_pos c1, if_pos (show rd l ((l.length : Int) - 1) < 1 ∨ _ from .inl c1)]
      simp
    · rw [if_neg c1]
      by_cases c2 : (l.length : Int) < rd l ((l.length : Int) - 1)
      · rw [if_pos c2, if_pos (show _ ∨ (l.length : Int) < rd l ((l.length : Int) - 1) from .inr c2)]
        simp
      · rw [if_neg c2, if_neg (by omega), if_neg (by omega)]
structure Pk where
  h : Hd
  prof : Int
  ex : List Int
  pl : List Int
  padn : Int
def Pk.zero : Pk := ⟨.zero, 0, [], [], 0⟩
def openT (left : List Int) (h : Hd) (prof : Int) (ex : List Int) : Pk × List Int × Int :=
  if h.pad = true then (if trailM left = 0 then (.zero, [], 5) else (⟨h, prof, ex, left.take (left.length - (trailM left).toNat), trailM left⟩, left.drop (left.length - (trailM left).toNat), 0)) else (⟨h, prof, ex, left, 0⟩, [], 0)
def openE (left : List Int) (h : Hd) : Pk × List Int × Int :=
  if left.length < 4 then (.zero, [], 2) else if (left.length : Int) - 4 < 4 * (rd left 2 * 256 + rd left 3) then (.zero, [], 2) else
  openT ((left.drop 4).drop (4 * (rd left 2 * 256 + rd left 3)).toNat) h (rd left 0 * 256 + rd left 1) ((left.drop 4).take (4 * (rd left 2 * 256 + rd left 3)).toNat)
/-- The packet of bytes, its trailer, and why there is none. -/
def openM (l : List Int) : Pk × List Int × Int :=
  if 65535 < l.length then (.zero, [], 4) else if (headM l).2.2 ≠ 0 then (.zero, [], (headM l).2.2) else
  if (headM l).1.ext = true then openE (l.drop (headM l).2.1.toNat) (headM l).1 else openT (l.drop (headM l).2.1.toNat) (headM l).1 0 []
abbrev oflat (o : Pk × List Int × Int) : Bool × Bool × Bool × Int × Int × Int × Int × List Int × Int × List Int × List Int × Int × List Int × Int :=
  (o.1.h.pad, o.1.h.ext, o.1.h.mark, o.1.h.typ, o.1.h.seq, o.1.h.tm, o.1.h.ssrc, o.1.h.csrc, o.1.prof, o.1.ex, o.1.pl, o.1.padn, o.2.1, o.2.2)
theorem openT_ev {left : List Int} (hb : Byt left) (hl : left.length ≤ 140737488351232) (h : Hd) (prof : Int) (ex : List Int) :
    Ev (fun k => packet_open.j0 k left h.pad h.ext h.mark h.typ h.seq h.tm h.ssrc h.csrc h.pad h.ext h.mark h.typ h.seq h.tm h.ssrc h.csrc prof ex 0) (oflat (openT left h prof ex)) := by
  unfold openT
  by_cases c : h.pad = true
  · rw [if_pos c]
    by_cases c2 : trailM left = 0
    · rw [if_pos c2]
      refine Ev.step (f := fun _ => some (oflat (.zero, [], 5))) (fun k => ?_) (Ev.now _)
      rw [packet_open.j0]
      rw [if_pos c, trail_eq hb hl, if_pos c2]
      simp only [ob]
      rw [if_neg (by decide)]
      rfl
    · have ht := trailM_le left c2
      rw [if_neg c2]
      refine Ev.step (f := fun k => (packet_part.f k (left.take (left.length - (trailM left).toNat))).bind fun t => some (h.pad, h.ext, h.mark, h.typ, h.seq, h.tm, h.ssrc, h.csrc, prof, ex, t, trailM left, left.drop (left.length - (trailM left).toNat), 0)) (fun k => ?_) ?_
      · rw [packet_open.j0]
        rw [if_pos c, trail_eq hb hl, if_neg c2]
        simp only [ob]
        rw [if_pos trivial, w64 (by omega) (by omega), if_pos (by omega), if_pos (by omega), show ((left.length : Int) - trailM left).toNat = left.length - (trailM left).toNat by omega]
      · exact Ev.bind (part_ev (by rw [List.length_take]; omega)) (Ev.now _)
  · rw [if_neg c]
    refine Ev.step (f := fun k => (packet_part.f k left).bind fun t => some (h.pad, h.ext, h.mark, h.typ, h.seq, h.tm, h.ssrc, h.csrc, prof, ex, t, 0, ([] : List Int), 0)) (fun k => ?_) ?_
    · rw [packet_open.j0]
      rw [if_neg c, Int.sub_zero, w64 (by omega) (by omega), if_pos (by omega), if_pos (by omega), Int.toNat_natCast, List.take_length, List.drop_length]
    · exact Ev.bind (part_ev hl) (Ev.now _)
theorem open_ev {l : List Int} (hb : Byt l) : Ev (fun k => packet_open.f k l) (oflat (openM l)) := by
  by_cases c : 65535 < l.length
  · refine Ev.eq fun k => ?_
    unfold packet_open.f openM
    rw [if_pos (by omega), if_pos c]
    rfl
  · have hl : l.length ≤ 140737488351232 := by omega
    simp only [packet_open.f]
    rw [show ∀ α (x y : Nat → Option α), (fun k => if (l.length : Int) > 65535 then x k else y k) = y from fun α x y => funext fun k => if_neg (by omega)]
    · refine Ev.bind (head_ev hb hl) ?_
      generalize hh : headM l = H
      have hr : H.2.2 = 0 → 12 ≤ H.2.1 ∧ H.2.1 ≤ l.length := by
        intro h0
        rw [← hh] at h0 ⊢
        unfold headM at h0 ⊢
        split at h0
        · cases h0
        · split at h0
          · cases h0
          · split at h0
            · cases h0
            · rename_i h1 h2 h3
              have := brd hb 0
              rw [if_neg h1, if_neg h2, if_neg h3]
              dsimp only
              omega
      unfold openM
      rw [if_neg c, hh]
      by_cases c1 : H.2.2 = 0
      · have hr := hr c1
        rw [if_neg (show ¬ (H.2.2 ≠ 0) by simpa using c1)]
        have hbl := hb.drop H.2.1.toNat
        have hll : (l.drop H.2.1.toNat).length = l.length - H.2.1.toNat := List.length_drop
        generalize hL : l.drop H.2.1.toNat = left at hbl hll
        by_cases c2 : H.1.ext = true
        · rw [if_pos c2]
          have r0 := brd hbl 0
          have r1 := brd hbl 1
          have r2 := brd hbl 2
          have r3 := brd hbl 3
          unfold openE
          by_cases c3 : left.length < 4
          · rw [if_pos c3]
            refine Ev.congr (f := fun _ => some (oflat (.zero, [], 2))) (fun k => ?_) (Ev.now _)
            dsimp only [hflat]
            rw [if_pos c1, if_pos (by omega), if_pos (by omega)]
            simp only [ob]
            rw [if_pos c2, if_pos (by omega)]
            rfl
          · rw [if_neg c3]
            by_cases c4 : (left.length : Int) - 4 < 4 * (rd left 2 * 256 + rd left 3)
            · rw [if_pos c4]
              refine Ev.congr (f := fun _ => some (oflat (.zero, [], 2))) (fun k => ?_) (Ev.now _)
              dsimp only [hflat]
              rw [if_pos c1, if_pos (by omega), if_pos (by omega)]
              simp only [ob]
              rw [if_pos c2, if_neg (by omega), if_pos (by omega), if_pos (by omega), if_pos (by omega), if_pos (by omega), if_pos (by omega), or_join64 r2.1 r2.2 r3.1 r3.2, w64 (by omega) (by omega), List.length_drop, if_pos (by omega)]
              rfl
            · rw [if_neg c4]
              have hbd := hbl.drop 4
              have hld : (left.drop 4).length = left.length - 4 := List.length_drop
              generalize hD : left.drop 4 = D at hbd hld
              generalize hS : 4 * (rd left 2 * 256 + rd left 3) = sz at c4
              refine Ev.congr (f := fun k => (packet_part.f k (D.take sz.toNat)).bind fun t => packet_open.j0 k (D.drop sz.toNat) H.1.pad H.1.ext H.1.mark H.1.typ H.1.seq H.1.tm H.1.ssrc H.1.csrc H.1.pad H.1.ext H.1.mark H.1.typ H.1.seq H.1.tm H.1.ssrc H.1.csrc (rd left 0 * 256 + rd left 1) t 0) (fun k => ?_) ?_
              · dsimp only [hflat]
                rw [if_pos c1, if_pos (by omega), if_pos (by omega)]
                simp only [ob]
                rw [if_pos c2, if_neg (by omega), if_pos (by omega), if_pos (by omega), if_pos (by omega), if_pos (by omega), if_pos (by omega), or_join64 r2.1 r2.2 r3.1 r3.2, w64 (by omega) (by omega), hD, hS, if_neg (by omega), if_pos (by omega), if_pos (by omega), or_join16 r0.1 r0.2 r1.1 r1.2]
              · exact Ev.bind (part_ev (by rw [List.length_take]; omega)) (openT_ev (hbd.drop _) (by rw [List.length_drop]; omega) H.1 _ _)
        · rw [if_neg c2]
          refine Ev.congr (f := fun k => packet_open.j0 k left H.1.pad H.1.ext H.1.mark H.1.typ H.1.seq H.1.tm H.1.ssrc H.1.csrc H.1.pad H.1.ext H.1.mark H.1.typ H.1.seq H.1.tm H.1.ssrc H.1.csrc 0 [] 0) (fun k => ?_) (openT_ev hbl (by omega) H.1 _ _)
          dsimp only [hflat]
          rw [if_pos c1, if_pos (by omega), if_pos (by omega)]
          simp only [ob]
          rw [if_neg c2]
      · rw [if_pos (show H.2.2 ≠ 0 from c1)]
        refine Ev.eq fun k => ?_
        dsimp only [hflat]
        rw [if_neg c1]
        rfl
abbrev pflat (o : Pk × List Int × Int) : Bool × Bool × Bool × Int × Int × Int × Int × List Int × Int × List Int × List Int × Int × Int :=
  (o.1.h.pad, o.1.h.ext, o.1.h.mark, o.1.h.typ, o.1.h.seq, o.1.h.tm, o.1.h.ssrc, o.1.h.csrc, o.1.prof, o.1.ex, o.1.pl, o.1.padn, o.2.2)
theorem read_ev {l : List Int} (hb : Byt l) : Ev (fun k => packet_Read.f k l) (pflat (openM l)) :=
  Ev.congr (fun k => by unfold packet_Read.f; rfl) (Ev.bind (open_ev hb) (Ev.now _))
end Go.Proofs.Ytcbdgknfkoodoaa.S
