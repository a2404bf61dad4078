/- The walks of the program's functions and the plain proofs for this claim, merged by a program; each theorem says what it says, no conditions beyond those stated. -/
import Derived.Test.YtcbdgknfkoodoaaKC0
import Derived.Test.YtcbdgknfkoodoaaKC5
import Derived.Test.YtcbdgknfkoodoaaKC1
import Derived.Test.YtcbdgknfkoodoaaKC2
import Derived.Test.YtcbdgknfkoodoaaKC3
import Derived.Test.YtcbdgknfkoodoaaKC4
import Derived.Lib.Bytes
namespace Go.Proofs.Ytcbdgknfkoodoaa.S
open Go.RowKit Go.Proofs.YtcbdgknfkoodoaaW.PrintWords Go.Proofs.Ytcbdgknfkoodoaa.F
set_option linter.unusedVariables false
set_option linter.unusedSimpArgs false
theorem rdL2 {ls : List (List Int)} {i : Nat} (h : i < ls.length) : rd_L2 ls (i : Int) = ls[i] := by
  simp [rd_L2, h]
theorem flat_take (ls : List (List Int)) (i : Nat) (h : i < ls.length) : (ls.take (i + 1)).flatten = (ls.take i).flatten ++ ls[i] := by
  rw [List.take_succ_eq_append_getElem h, List.flatten_append]
  simp
theorem flat_le (ls : List (List Int)) (i : Nat) : (ls.take i).flatten.length ≤ ls.flatten.length := by
  conv => rhs; rw [← List.take_append_drop i ls, List.flatten_append, List.length_append]
  omega
theorem join1 {ls : List (List Int)} (hn : ls.length ≤ 140737488351232) (hl : ls.flatten.length ≤ 140737488351232) : ∀ (d i : Nat), i + d = ls.length → Ev (fun k => octet_Join.l1 k (ls.take i).flatten ls (ls.length : Int) (i : Int)) ls.flatten := by
  intro d
  induction d with
  | zero =>
    intro i hi
    refine Ev.step (f := fun _ => some ls.flatten) (fun k => ?_) (Ev.now _)
    simp only [octet_Join.l1]
    rw [if_neg (by omega), List.take_of_length_le (by omega)]
  | succ d ih =>
    intro i hi
    have hf := flat_take ls i (by omega)
    have hle := flat_le ls (i + 1)
    rw [hf, List.length_append] at hle
    refine Ev.step (f := fun k => octet_Join.l1 k (ls.take (i + 1)).flatten ls (ls.length : Int) ((i + 1 : Nat) : Int)) (fun k => ?_) (ih (i + 1) (by omega))
    conv => lhs; unfold octet_Join.l1
    rw [if_pos (by omega), if_pos (by omega), if_pos (by omega), rdL2 (show i < ls.length by omega), if_pos (by omega), w64 (by omega) (by omega), hf]
    rfl
theorem join0 {ls : List (List Int)} (hn : ls.length ≤ 140737488351232) (hl : ls.flatten.length ≤ 140737488351232) : ∀ (d i : Nat), i + d = ls.length → Ev (fun k => octet_Join.l0 k ls ((ls.take i).flatten.length : Int) ls (ls.length : Int) (i : Int)) ls.flatten := by
  intro d
  induction d with
  | zero =>
    intro i hi
    refine Ev.step (f := fun k => octet_Join.l1 k (ls.take 0).flatten ls (ls.length : Int) ((0 : Nat) : Int)) (fun k => ?_) (join1 hn hl ls.length 0 (by omega))
    conv => lhs; unfold octet_Join.l0
    have := flat_le ls i
    rw [if_neg (by omega), if_pos (by omega), if_pos (by omega)]
    rfl
  | succ d ih =>
    intro i hi
    have hf := flat_take ls i (by omega)
    have hle := flat_le ls (i + 1)
    rw [hf, List.length_append] at hle
    refine Ev.step (f := fun k => octet_Join.l0 k ls ((ls.take (i + 1)).flatten.length : Int) ls (ls.length : Int) ((i + 1 : Nat) : Int)) (fun k => ?_) (ih (i + 1) (by omega))
    conv => lhs; unfold octet_Join.l0
    rw [if_pos (by omega), if_pos (by omega), if_pos (by omega), rdL2 (show i < ls.length by omega), w64 (n := (i : Int) + 1) (by omega) (by omega), w64 (by omega) (by omega), hf, List.length_append]
    rfl
theorem join_ev {ls : List (List Int)} (hn : ls.length ≤ 140737488351232) (hl : ls.flatten.length ≤ 140737488351232) : Ev (fun k => octet_Join.f k ls) ls.flatten :=
  Ev.congr (fun k => by unfold octet_Join.f; rfl) (join0 hn hl ls.length 0 (by omega))
theorem part_ev {l : List Int} (hl : l.length ≤ 140737488351232) : Ev (fun k => packet_part.f k l) l := by
  by_cases h : l.length = 0
  · obtain rfl := List.eq_nil_of_length_eq_zero h
    refine Ev.eq fun k => ?_
    unfold packet_part.f
    rw [if_pos (by simp)]
  · have e := join_ev (ls := [l]) (by simp) (by simpa using hl)
    refine Ev.congr (f := fun k => (octet_Join.f k [l]).bind fun t => some t) (fun k => ?_) ?_
    · unfold packet_part.f
      rw [if_neg (by omega)]
    · refine Ev.bind e (Ev.eq fun k => ?_)
      simp
def trailM (l : List Int) : Int := if l.length = 0 then 0 else if rd l ((l.length : Int) - 1) < 1 ∨ (l.length : Int) < rd l ((l.length : Int) - 1) then 0 else rd l ((l.length : Int) - 1)
theorem trailM_le (l : List Int) (h : trailM l ≠ 0) : 1 ≤ trailM l ∧ trailM l ≤ l.length := by
  unfold trailM at h ⊢
  split at h
  · exact absurd rfl h
  · split at h
    · exact absurd rfl h
    · rename_i h1 h2
      rw [if_neg h1, if_neg h2]
      omega
theorem trail_eq {l : List Int} (hb : Byt l) (hl : l.length ≤ 140737488351232) : pad_Trail.f l = some (if trailM l = 0 then (0, 5) else (trailM l, 0)) := by
  have hr := brd hb ((l.length : Int) - 1)
  unfold pad_Trail.f trailM
  by_cases c : l.length = 0
  · rw [if_pos (by omega), if_pos c, if_pos rfl]
  · rw [if_neg (by omega), w64 (n := (l.length : Int) - 1) (by omega) (by omega), if_pos (by omega), if_pos (by omega), w64 (by omega) (by omega), if_neg c]
    by_cases c1 : rd l ((l.length : Int) - 1) < 1
    · rw [if_pos c1, if_pos (show rd l ((l.length : Int) - 1) < 1 ∨ _ from .inl c1)]
      simp
    · rw [if_neg c1]
      by_cases c2 : (l.length : Int) < rd l ((l.length : Int) - 1)
      · rw [if_pos c2, if_pos (show _ ∨ (l.length : Int) < rd l ((l.length : Int) - 1) from .inr c2)]
        simp
      · rw [if_neg c2, if_neg (by omega), if_neg (by omega)]
structure Pk where
  h : Hd
  prof : Int
  ex : List Int
  pl : List Int
  padn : Int
def Pk.zero : Pk := ⟨.zero, 0, [], [], 0⟩
def openT (left : List Int) (h : Hd) (prof : Int) (ex : List Int) : Pk × List Int × Int :=
  if h.pad = true then (if trailM left = 0 then (.zero, [], 5) else (⟨h, prof, ex, left.take (left.length - (trailM left).toNat), trailM left⟩, left.drop (left.length - (trailM left).toNat), 0)) else (⟨h, prof, ex, left, 0⟩, [], 0)
def openE (left : List Int) (h : Hd) : Pk × List Int × Int :=
  if left.length < 4 then (.zero, [], 2) else if (left.length : Int) - 4 < 4 * (rd left 2 * 256 + rd left 3) then (.zero, [], 2) else
  openT ((left.drop 4).drop (4 * (rd left 2 * 256 + rd left 3)).toNat) h (rd left 0 * 256 + rd left 1) ((left.drop 4).take (4 * (rd left 2 * 256 + rd left 3)).toNat)
def openM (l : List Int) : Pk × List Int × Int :=
  if 65535 < l.length then (.zero, [], 4) else if (headM l).2.2 ≠ 0 then (.zero, [], (headM l).2.2) else
  if (headM l).1.ext = true then openE (l.drop (headM l).2.1.toNat) (headM l).1 else openT (l.drop (headM l).2.1.toNat) (headM l).1 0 []
abbrev oflat (o : Pk × List Int × Int) : Bool × Bool × Bool × Int × Int × Int × Int × List Int × Int × List Int × List Int × Int × List Int × Int :=
  (o.1.h.pad, o.1.h.ext, o.1.h.mark, o.1.h.typ, o.1.h.seq, o.1.h.tm, o.1.h.ssrc, o.1.h.csrc, o.1.prof, o.1.ex, o.1.pl, o.1.padn, o.2.1, o.2.2)
theorem openT_ev {left : List Int} (hb : Byt left) (hl : left.length ≤ 140737488351232) (h : Hd) (prof : Int) (ex : List Int) :
    Ev (fun k => packet_open.j0 k left h.pad h.ext h.mark h.typ h.seq h.tm h.ssrc h.csrc h.pad h.ext h.mark h.typ h.seq h.tm h.ssrc h.csrc prof ex 0) (oflat (openT left h prof ex)) := by
  unfold openT
  by_cases c : h.pad = true
  · rw [if_pos c]
    by_cases c2 : trailM left = 0
    · rw [if_pos c2]
      refine Ev.step (f := fun _ => some (oflat (.zero, [], 5))) (fun k => ?_) (Ev.now _)
      rw [packet_open.j0]
      rw [if_pos c, trail_eq hb hl, if_pos c2]
      simp only [ob]
      rw [if_neg (by decide)]
      rfl
    · have ht := trailM_le left c2
      rw [if_neg c2]
      refine Ev.step (f := fun k => (packet_part.f k (left.take (left.length - (trailM left).toNat))).bind fun t => some (h.pad, h.ext, h.mark, h.typ, h.seq, h.tm, h.ssrc, h.csrc, prof, ex, t, trailM left, left.drop (left.length - (trailM left).toNat), 0)) (fun k => ?_) ?_
      · rw [packet_open.j0]
        rw [if_pos c, trail_eq hb hl, if_neg c2]
        simp only [ob]
        rw [if_pos trivial, w64 (by omega) (by omega), if_pos (by omega), if_pos (by omega), show ((left.length : Int) - trailM left).toNat = left.length - (trailM left).toNat by omega]
      · exact Ev.bind (part_ev (by rw [List.length_take]; omega)) (Ev.now _)
  · rw [if_neg c]
    refine Ev.step (f := fun k => (packet_part.f k left).bind fun t => some (h.pad, h.ext, h.mark, h.typ, h.seq, h.tm, h.ssrc, h.csrc, prof, ex, t, 0, ([] : List Int), 0)) (fun k => ?_) ?_
    · rw [packet_open.j0]
      rw [if_neg c, Int.sub_zero, w64 (by omega) (by omega), if_pos (by omega), if_pos (by omega), Int.toNat_natCast, List.take_length, List.drop_length]
    · exact Ev.bind (part_ev hl) (Ev.now _)
theorem open_ev {l : List Int} (hb : Byt l) : Ev (fun k => packet_open.f k l) (oflat (openM l)) := by
  by_cases c : 65535 < l.length
  · refine Ev.eq fun k => ?_
    unfold packet_open.f openM
    rw [if_pos (by omega), if_pos c]
    rfl
  · have hl : l.length ≤ 140737488351232 := by omega
    simp only [packet_open.f]
    rw [show ∀ α (x y : Nat → Option α), (fun k => if (l.length : Int) > 65535 then x k else y k) = y from fun α x y => funext fun k => if_neg (by omega)]
    · refine Ev.bind (head_ev hb hl) ?_
      generalize hh : headM l = H
      have hr : H.2.2 = 0 → 12 ≤ H.2.1 ∧ H.2.1 ≤ l.length := by
        intro h0
        rw [← hh] at h0 ⊢
        unfold headM at h0 ⊢
        split at h0
        · cases h0
        · split at h0
          · cases h0
          · split at h0
            · cases h0
            · rename_i h1 h2 h3
              have := brd hb 0
              rw [if_neg h1, if_neg h2, if_neg h3]
              dsimp only
              omega
      unfold openM
      rw [if_neg c, hh]
      by_cases c1 : H.2.2 = 0
      · have hr := hr c1
        rw [if_neg (show ¬ (H.2.2 ≠ 0) by simpa using c1)]
        have hbl := hb.drop H.2.1.toNat
        have hll : (l.drop H.2.1.toNat).length = l.length - H.2.1.toNat := List.length_drop
        generalize hL : l.drop H.2.1.toNat = left at hbl hll
        by_cases c2 : H.1.ext = true
        · rw [if_pos c2]
          have r0 := brd hbl 0
          have r1 := brd hbl 1
          have r2 := brd hbl 2
          have r3 := brd hbl 3
          unfold openE
          by_cases c3 : left.length < 4
          · rw [if_pos c3]
            refine Ev.congr (f := fun _ => some (oflat (.zero, [], 2))) (fun k => ?_) (Ev.now _)
            dsimp only [hflat]
            rw [if_pos c1, if_pos (by omega), if_pos (by omega)]
            simp only [ob]
            rw [if_pos c2, if_pos (by omega)]
            rfl
          · rw [if_neg c3]
            by_cases c4 : (left.length : Int) - 4 < 4 * (rd left 2 * 256 + rd left 3)
            · rw [if_pos c4]
              refine Ev.congr (f := fun _ => some (oflat (.zero, [], 2))) (fun k => ?_) (Ev.now _)
              dsimp only [hflat]
              rw [if_pos c1, if_pos (by omega), if_pos (by omega)]
              simp only [ob]
              rw [if_pos c2, if_neg (by omega), if_pos (by omega), if_pos (by omega), if_pos (by omega), if_pos (by omega), if_pos (by omega), or_join64 r2.1 r2.2 r3.1 r3.2, w64 (by omega) (by omega), List.length_drop, if_pos (by omega)]
              rfl
            · rw [if_neg c4]
              have hbd := hbl.drop 4
              have hld : (left.drop 4).length = left.length - 4 := List.length_drop
              generalize hD : left.drop 4 = D at hbd hld
              generalize hS : 4 * (rd left 2 * 256 + rd left 3) = sz at c4
              refine Ev.congr (f := fun k => (packet_part.f k (D.take sz.toNat)).bind fun t => packet_open.j0 k (D.drop sz.toNat) H.1.pad H.1.ext H.1.mark H.1.typ H.1.seq H.1.tm H.1.ssrc H.1.csrc H.1.pad H.1.ext H.1.mark H.1.typ H.1.seq H.1.tm H.1.ssrc H.1.csrc (rd left 0 * 256 + rd left 1) t 0) (fun k => ?_) ?_
              · dsimp only [hflat]
                rw [if_pos c1, if_pos (by omega), if_pos (by omega)]
                simp only [ob]
                rw [if_pos c2, if_neg (by omega), if_pos (by omega), if_pos (by omega), if_pos (by omega), if_pos (by omega), if_pos (by omega), or_join64 r2.1 r2.2 r3.1 r3.2, w64 (by omega) (by omega), hD, hS, if_neg (by omega), if_pos (by omega), if_pos (by omega), or_join16 r0.1 r0.2 r1.1 r1.2]
              · exact Ev.bind (part_ev (by rw [List.length_take]; omega)) (openT_ev (hbd.drop _) (by rw [List.length_drop]; omega) H.1 _ _)
        · rw [if_neg c2]
          refine Ev.congr (f := fun k => packet_open.j0 k left H.1.pad H.1.ext H.1.mark H.1.typ H.1.seq H.1.tm H.1.ssrc H.1.csrc H.1.pad H.1.ext H.1.mark H.1.typ H.1.seq H.1.tm H.1.ssrc H.1.csrc 0 [] 0) (fun k => ?_) (openT_ev hbl (by omega) H.1 _ _)
          dsimp only [hflat]
          rw [if_pos c1, if_pos (by omega), if_pos (by omega)]
          simp only [ob]
          rw [if_neg c2]
      · rw [if_pos (show H.2.2 ≠ 0 from c1)]
        refine Ev.eq fun k => ?_
        dsimp only [hflat]
        rw [if_neg c1]
        rfl
abbrev pflat (o : Pk × List Int × Int) : Bool × Bool × Bool × Int × Int × Int × Int × List Int × Int × List Int × List Int × Int × Int :=
  (o.1.h.pad, o.1.h.ext, o.1.h.mark, o.1.h.typ, o.1.h.seq, o.1.h.tm, o.1.h.ssrc, o.1.h.csrc, o.1.prof, o.1.ex, o.1.pl, o.1.padn, o.2.2)
theorem read_ev {l : List Int} (hb : Byt l) : Ev (fun k => packet_Read.f k l) (pflat (openM l)) :=
  Ev.congr (fun k => by unfold packet_Read.f; rfl) (Ev.bind (open_ev hb) (Ev.now _))
end Go.Proofs.Ytcbdgknfkoodoaa.S
namespace Go.Proofs.Ytcbdgknfkoodoaa.S
open Go.RowKit Go.Proofs.YtcbdgknfkoodoaaW.PrintWords Go.Proofs.Ytcbdgknfkoodoaa.F
set_option linter.unusedVariables false
set_option linter.unusedSimpArgs false
def mk (a : Int) : List (Int × Int) → List S32
  | [] => []
  | p :: r => ⟨p.1, a, p.2⟩ :: mk (a + p.2) r
def one (f s : Int) : List (Int × Int) := if 0 < s then [(f, s)] else []
theorem openT_fit {left : List Int} (hb : Byt left) (h : Hd) (prof : Int) (ex : List Int) (h0 : (openT left h prof ex).2.2 = 0) :
    (openT left h prof ex).1.h = h ∧ (openT left h prof ex).1.ex = ex ∧ (openT left h prof ex).1.prof = prof ∧ 0 ≤ (openT left h prof ex).1.padn ∧ (openT left h prof ex).1.padn ≤ 255 ∧ (h.pad = true → 1 ≤ (openT left h prof ex).1.padn) ∧ (h.pad = false → (openT left h prof ex).1.padn = 0) ∧
    ((openT left h prof ex).1.pl.length : Int) + (openT left h prof ex).1.padn = left.length := by
  unfold openT at h0 ⊢
  by_cases c : h.pad = true
  · rw [if_pos c] at h0 ⊢
    by_cases c2 : trailM left = 0
    · rw [if_pos c2] at h0
      exact absurd h0 (by decide)
    · rw [if_neg c2]
      have ht := trailM_le left c2
      have h255 : trailM left ≤ 255 := by
        unfold trailM
        split
        · omega
        · split
          · omega
          · exact (brd hb _).2
      refine ⟨rfl, rfl, rfl, by dsimp only; omega, h255, fun _ => ht.1, fun hc => by simp [c] at hc, ?_⟩
      dsimp only
      rw [List.length_take]
      omega
  · rw [if_neg c]
    exact ⟨rfl, rfl, rfl, Int.le_refl _, by simp, fun h => absurd h c, fun _ => rfl, by simp⟩
theorem head_fit {l : List Int} (hb : Byt l) (h0 : (headM l).2.2 = 0) : (headM l).1.csrc.length ≤ 15 ∧ (headM l).2.1 = 12 + 4 * ((headM l).1.csrc.length : Int) ∧ (headM l).2.1 ≤ l.length := by
  unfold headM at h0 ⊢
  split at h0
  · exact absurd h0 (by decide)
  · split at h0
    · exact absurd h0 (by decide)
    · split at h0
      · exact absurd h0 (by decide)
      · rename_i h1 h2 h3
        have := brd hb 0
        rw [if_neg h1, if_neg h2, if_neg h3]
        simp only [words, List.length_map, List.length_range]
        omega
end Go.Proofs.Ytcbdgknfkoodoaa.S
namespace Go.Proofs.Ytcbdgknfkoodoaa.S
open Go.RowKit Go.Proofs.YtcbdgknfkoodoaaW.PrintWords Go.Proofs.Ytcbdgknfkoodoaa.F
set_option linter.unusedVariables false
set_option linter.unusedSimpArgs false
theorem cutn_len {l : List Int} {a n : Nat} (h : a + n ≤ l.length) : (cutn l a n).length = n := by simp [cutn]; omega
theorem cutn_byt {l : List Int} (hb : Byt l) (a n : Nat) : Byt (cutn l a n) := (hb.drop a).take n
theorem cutn_rd {l : List Int} {a n i : Nat} (h : a + n ≤ l.length) (hi : i < n) : (cutn l a n).drop i = rd l ((a + i : Nat) : Int) :: (cutn l a n).drop (i + 1) := by
  have hl := cutn_len h
  rw [List.drop_eq_getElem_cons (by omega)]
  congr 1
  rw [rd_eq (by omega) (by omega)]
  simp only [cutn, List.getElem_take, List.getElem_drop, Int.toNat_natCast]
theorem rget_loop {l : List Int} (hb : Byt l) (hl : l.length ≤ 140737488351232) (a n : Nat) (h : a + n ≤ l.length) (h8 : n ≤ 8) : ∀ (d i : Nat) (v : Int), i + d = n → 0 ≤ v → v < ((256 ^ i : Nat) : Int) → Ev (fun k => crossbarref01_Get.l0 k l (a : Int) (n : Int) v (i : Int)) (be v ((cutn l a n).drop i), 0) := by
  have hcl := cutn_len h
  intro d
  induction d with
  | zero =>
    intro i v hi hv hv2
    refine Ev.step (f := fun _ => some (be v ((cutn l a n).drop i), 0)) (fun k => ?_) (Ev.now _)
    simp only [crossbarref01_Get.l0]
    rw [if_neg (by omega), List.drop_of_length_le (by omega)]
    rfl
  | succ d ih =>
    intro i v hi hv hv2
    have hx := brd hb ((a + i : Nat) : Int)
    have hp : 256 ^ i ≤ 72057594037927936 := Nat.le_trans (Nat.pow_le_pow_right (show 0 < 256 by decide) (show i ≤ 7 by omega)) (by decide)
    have hv3 : v < 72057594037927936 := Int.lt_of_lt_of_le hv2 (Int.ofNat_le.2 hp)
    refine Ev.step (f := fun k => crossbarref01_Get.l0 k l (a : Int) (n : Int) (v * 256 + rd l ((a + i : Nat) : Int)) ((i + 1 : Nat) : Int)) (fun k => ?_) ?_
    · conv => lhs; unfold crossbarref01_Get.l0
      rw [if_pos (by omega), w64 (n := (a : Int) + i) (by omega) (by omega), if_pos (by omega), if_pos (by omega), show (a : Int) + (i : Int) = ((a + i : Nat) : Int) by omega, u64w (n := 256 * v) (by omega) (by omega), u64w hx.1 (by omega), u64w (by omega) (by omega), w64 (by omega) (by omega), Int.mul_comm 256 v]
      rfl
    · have := ih (i + 1) (v * 256 + rd l ((a + i : Nat) : Int)) (by omega) (by omega) (by rw [Nat.pow_succ, Int.natCast_mul]; omega)
      rw [cutn_rd h (by omega), be_cons]
      exact this
theorem num_ev {l : List Int} (hb : Byt l) (hl : l.length ≤ 140737488351232) (a n : Nat) (h1 : 1 ≤ n) (h4 : n ≤ 4) (h : a + n ≤ l.length) : Ev (fun k => crossbarref05_Num.f k l (a : Int) (n : Int)) (be 0 (cutn l a n)) := by
  have hr := be_range (y := cutn l a n) (cutn_byt hb a n) 0 (by omega)
  rw [cutn_len h] at hr
  have hp : 256 ^ n ≤ 4294967296 := Nat.le_trans (Nat.pow_le_pow_right (show 0 < 256 by decide) h4) (by decide)
  have hp' : (256 : Int) ^ n ≤ 4294967296 := by
    have := Int.ofNat_le.2 hp
    rwa [Int.natCast_pow] at this
  have e : Ev (fun k => crossbarref01_Get.f k l (a : Int) (n : Int)) (be 0 (cutn l a n), 0) := by
    refine Ev.congr (f := fun k => crossbarref01_Get.j0 k l (a : Int) (n : Int) false) (fun k => ?_) ?_
    · unfold crossbarref01_Get.f
      rw [if_neg (by omega), if_neg (by omega), decide_eq_false (by omega)]
    · refine Ev.step (f := fun k => crossbarref01_Get.j1 k l (a : Int) (n : Int) false) (fun k => ?_) ?_
      · rw [crossbarref01_Get.j0, if_neg (by decide), if_neg (by omega), w64 (by omega) (by omega), decide_eq_false (by omega)]
      · refine Ev.step (f := fun k => crossbarref01_Get.l0 k l (a : Int) (n : Int) 0 ((0 : Nat) : Int)) (fun k => ?_) ?_
        · rw [crossbarref01_Get.j1, if_neg (by decide)]
          rfl
        · have := rget_loop hb hl a n h (by omega) n 0 0 (by omega) (by omega) (by decide)
          rw [List.drop_zero] at this
          exact this
  refine Ev.congr (f := fun k => (crossbarref01_Get.f k l (a : Int) (n : Int)).bind fun b => some (b.1 % 4294967296)) (fun k => by unfold crossbarref05_Num.f; rfl) (Ev.bind e (f := fun _ b => some (b.1 % 4294967296)) ?_)
  refine Ev.eq fun k => ?_
  dsimp only
  rw [Int.emod_eq_of_lt hr.1 (by omega)]
theorem be2 {l : List Int} (a : Nat) (h : a + 2 ≤ l.length) : be 0 (cutn l a 2) = rd l (a : Int) * 256 + rd l ((a + 1 : Nat) : Int) := by
  have e0 := cutn_rd (l := l) (a := a) (n := 2) (i := 0) h (by omega)
  have e1 := cutn_rd (l := l) (a := a) (n := 2) (i := 1) h (by omega)
  rw [List.drop_zero] at e0
  rw [e0, e1, be_cons, be_cons, List.drop_of_length_le (by rw [cutn_len h]; omega), be_nil]
  simp
theorem rhead_loop {l : List Int} (hb : Byt l) (hl : l.length ≤ 140737488351232) {n : Nat} (hn : n ≤ 15) (h : 12 + 4 * n ≤ l.length) (p e m : Bool) (ty sq tm ss : Int) :
    ∀ (d i : Nat), i + d = n → Ev (fun k => crossbarref05_Read.l0 k l (n : Int) (i : Int) p e m ty sq tm ss (words l 12 i)) (p, e, m, ty, sq, tm, ss, words l 12 n, 12 + 4 * (n : Int), 0) := by
  intro d
  induction d with
  | zero =>
    intro i hi
    obtain rfl : i = n := by omega
    refine Ev.step (f := fun _ => some (p, e, m, ty, sq, tm, ss, words l 12 i, 12 + 4 * (i : Int), 0)) (fun k => ?_) (Ev.now _)
    simp only [crossbarref05_Read.l0]
    rw [if_neg (by omega), w64 (n := 4 * (i : Int)) (by omega) (by omega), w64 (by omega) (by omega)]
  | succ d ih =>
    intro i hi
    refine Ev.step (f := fun k => (crossbarref05_Num.f k l ((12 + 4 * i : Nat) : Int) ((4 : Nat) : Int)).bind fun t => if (words l 12 i).length < 35184372088832 then crossbarref05_Read.l0 k l (n : Int) ((i + 1 : Nat) : Int) p e m ty sq tm ss (words l 12 i ++ [t]) else none) (fun k => ?_) ?_
    · conv => lhs; unfold crossbarref05_Read.l0
      rw [if_pos (by omega), w64 (n := 4 * (i : Int)) (by omega) (by omega), w64 (n := 12 + _) (by omega) (by omega), w64 (n := (i : Int) + 1) (by omega) (by omega)]
      rfl
    · refine Ev.bind (num_ev hb hl (12 + 4 * i) 4 (by omega) (by omega) (by omega)) ?_
      refine Ev.congr (f := fun k => crossbarref05_Read.l0 k l (n : Int) ((i + 1 : Nat) : Int) p e m ty sq tm ss (words l 12 (i + 1))) (fun k => ?_) (ih (i + 1) (by omega))
      rw [if_pos (by simp [words]; omega)]
      congr 1
      simp [words, List.range_succ, w32]
theorem tdm {x : Int} (h0 : 0 ≤ x) (h1 : x ≤ 255) (n : Int) (hn : 1 ≤ n) : Int.tdiv x n % 256 = x / n ∧ Int.tmod x n = x % n := by
  have e : Int.tdiv x n = x / n := Int.tdiv_eq_ediv_of_nonneg h0
  have e0 : 0 ≤ x / n := Int.ediv_nonneg h0 (by omega)
  have e1 : x / n ≤ x := Int.ediv_le_self _ h0
  exact ⟨by rw [e, Int.emod_eq_of_lt e0 (by omega)], Int.tmod_eq_emod_of_nonneg h0⟩
theorem rhead_ev {l : List Int} (hb : Byt l) (hl : l.length ≤ 140737488351232) : Ev (fun k => crossbarref05_Read.f k l) (hflat (headM l)) := by
  have h0 := brd hb 0
  have h1 := brd hb 1
  have h2 := brd hb 2
  have h3 := brd hb 3
  by_cases c1 : l.length < 12
  · refine Ev.eq fun k => ?_
    simp only [crossbarref05_Read.f, headM, if_pos c1, if_pos (show (l.length : Int) < 12 by omega)]
    rfl
  · by_cases c2 : rd l 0 / 64 = 2
    · by_cases c3 : (l.length : Int) < 12 + 4 * (rd l 0 % 16)
      · refine Ev.eq fun k => ?_
        simp only [crossbarref05_Read.f, headM, if_neg c1, if_pos c3]
        rw [if_neg (by omega), if_pos (by omega), (tdm h0.1 h0.2 64 (by omega)).1, if_pos c2, (tdm h0.1 h0.2 16 (by omega)).2, w64 (n := rd l 0 % 16) (by omega) (by omega), w64 (n := 4 * _) (by omega) (by omega), w64 (by omega) (by omega), if_pos c3, if_neg (by simpa using c2)]
        rfl
      · have hn : ((rd l 0 % 16).toNat : Int) = rd l 0 % 16 := by omega
        have b2 := be2 (l := l) 2 (by omega)
        refine Ev.congr (f := fun k => (crossbarref05_Num.f k l ((2 : Nat) : Int) ((2 : Nat) : Int)).bind fun s => (crossbarref05_Num.f k l ((4 : Nat) : Int) ((4 : Nat) : Int)).bind fun t => (crossbarref05_Num.f k l ((8 : Nat) : Int) ((4 : Nat) : Int)).bind fun u => crossbarref05_Read.l0 k l ((rd l 0 % 16).toNat : Int) ((0 : Nat) : Int) (decide (rd l 0 / 32 % 2 = 1)) (decide (rd l 0 / 16 % 2 = 1)) (decide (128 ≤ rd l 1)) (rd l 1 % 128) (IntKind.u16.wrap s) t u (words l 12 0)) (fun k => ?_) ?_
        · simp only [crossbarref05_Read.f]
          rw [if_neg (by omega), if_pos (by omega), (tdm h0.1 h0.2 64 (by omega)).1, if_pos c2, (tdm h0.1 h0.2 16 (by omega)).2, w64 (n := rd l 0 % 16) (by omega) (by omega), w64 (n := 4 * _) (by omega) (by omega), w64 (n := 12 + _) (by omega) (by omega), if_neg c3, if_pos (by omega), (tdm h0.1 h0.2 32 (by omega)).1, (tdm h0.1 h0.2 16 (by omega)).1, (tdm h1.1 h1.2 128 (by omega)).2, w64 (n := rd l 1 % 128) (by omega) (by omega), hn]
          rfl
        · refine Ev.bind (num_ev hb hl 2 2 (by omega) (by omega) (by omega)) (Ev.bind (num_ev hb hl 4 4 (by omega) (by omega) (by omega)) (Ev.bind (num_ev hb hl 8 4 (by omega) (by omega) (by omega)) ?_))
          have := rhead_loop hb hl (n := (rd l 0 % 16).toNat) (by omega) (by omega) (decide (rd l 0 / 32 % 2 = 1)) (decide (rd l 0 / 16 % 2 = 1)) (decide (128 ≤ rd l 1)) (rd l 1 % 128) (IntKind.u16.wrap (be 0 (cutn l 2 2))) (be 0 (cutn l 4 4)) (be 0 (cutn l 8 4)) (rd l 0 % 16).toNat 0 (by omega)
          have e : hflat (headM l) = (decide (rd l 0 / 32 % 2 = 1), decide (rd l 0 / 16 % 2 = 1), decide (128 ≤ rd l 1), rd l 1 % 128, IntKind.u16.wrap (be 0 (cutn l 2 2)), be 0 (cutn l 4 4), be 0 (cutn l 8 4), words l 12 (rd l 0 % 16).toNat, 12 + 4 * ((rd l 0 % 16).toNat : Int), 0) := by
            rw [b2, hn]
            rw [show ((2 : Nat) : Int) = 2 from rfl, show ((2 + 1 : Nat) : Int) = 3 from rfl, u16w (by omega) (by omega)]
            simp only [headM, if_neg c1, if_neg c3, if_neg (show ¬ (rd l 0 / 64 ≠ 2) by simpa using c2)]
            rfl
          rw [e]
          exact this
    · refine Ev.eq fun k => ?_
      simp only [crossbarref05_Read.f, headM, if_neg c1]
      rw [if_neg (by omega), if_pos (by omega), (tdm h0.1 h0.2 64 (by omega)).1, if_neg c2, if_pos (by simpa using c2)]
      rfl
theorem rtrail_eq {l : List Int} (hb : Byt l) (hl : l.length ≤ 140737488351232) : crossbarref03_Trail.f l = some (trailM l) := by
  have hr := brd hb ((l.length : Int) - 1)
  unfold crossbarref03_Trail.f trailM
  by_cases c : l.length = 0
  · rw [if_pos (by omega), if_pos c]
  · rw [if_neg (by omega), w64 (n := (l.length : Int) - 1) (by omega) (by omega), if_pos (by omega), if_pos (by omega), w64 (by omega) (by omega), if_neg c]
    by_cases c2 : (l.length : Int) < rd l ((l.length : Int) - 1)
    · rw [if_pos c2, if_pos (show _ ∨ (l.length : Int) < rd l ((l.length : Int) - 1) from .inr c2)]
    · rw [if_neg c2]
      by_cases c1 : rd l ((l.length : Int) - 1) < 1
      · rw [if_pos (show rd l ((l.length : Int) - 1) < 1 ∨ _ from .inl c1)]
        congr 1
        omega
      · rw [if_neg (by omega)]
theorem ropenT_ev {l : List Int} (hb : Byt l) (hl : l.length ≤ 140737488351232) (a : Nat) (ha : a ≤ l.length) (h : Hd) (prof : Int) (ex : List Int) :
    Ev (fun k => crossbarref06_Read.j0 k l (a : Int) h.pad h.ext h.mark h.typ h.seq h.tm h.ssrc h.csrc h.pad h.ext h.mark h.typ h.seq h.tm h.ssrc h.csrc prof ex 0) (pflat (openT (l.drop a) h prof ex)) := by
  have hbl := hb.drop a
  have hll : (l.drop a).length = l.length - a := List.length_drop
  unfold openT
  by_cases c : h.pad = true
  · rw [if_pos c]
    by_cases c2 : trailM (l.drop a) = 0
    · rw [if_pos c2]
      refine Ev.step (f := fun _ => some (pflat (.zero, [], 5))) (fun k => ?_) (Ev.now _)
      rw [crossbarref06_Read.j0]
      rw [if_pos c, if_pos (by omega), if_pos (by omega), Int.toNat_natCast, rtrail_eq hbl (by omega)]
      simp only [ob]
      rw [if_pos c2]
      rfl
    · have ht := trailM_le (l.drop a) c2
      rw [if_neg c2]
      refine Ev.step (f := fun _ => some (h.pad, h.ext, h.mark, h.typ, h.seq, h.tm, h.ssrc, h.csrc, prof, ex, (l.drop a).take ((l.drop a).length - (trailM (l.drop a)).toNat), trailM (l.drop a), 0)) (fun k => ?_) (Ev.now _)
      rw [crossbarref06_Read.j0]
      rw [if_pos c, if_pos (by omega), if_pos (by omega), Int.toNat_natCast, rtrail_eq hbl (by omega)]
      simp only [ob]
      rw [if_neg c2, w64 (by omega) (by omega), if_pos (by omega), if_pos (by omega)]
      have hs : (List.take ((l.length : Int) - trailM (l.drop a)).toNat l).drop a = (l.drop a).take ((l.drop a).length - (trailM (l.drop a)).toNat) := by
        rw [List.drop_take]; congr 1; omega
      rw [hs, if_pos (by rw [List.length_take]; simp only [List.length_nil]; omega), List.nil_append]
  · rw [if_neg c]
    refine Ev.step (f := fun _ => some (h.pad, h.ext, h.mark, h.typ, h.seq, h.tm, h.ssrc, h.csrc, prof, ex, l.drop a, 0, 0)) (fun k => ?_) (Ev.now _)
    rw [crossbarref06_Read.j0]
    rw [if_neg c]
    simp only [ob]
    rw [if_pos (by omega), Int.sub_zero, w64 (by omega) (by omega), if_pos (by omega), if_pos (by omega), Int.toNat_natCast, Int.toNat_natCast, List.take_length, if_pos (by simp only [List.length_nil]; omega), List.nil_append]
theorem rread_ev {l : List Int} (hb : Byt l) : Ev (fun k => crossbarref06_Read.f k l) (pflat (openM l)) := by
  by_cases c : 65535 < l.length
  · refine Ev.eq fun k => ?_
    unfold crossbarref06_Read.f openM
    rw [if_pos (by omega), if_pos c]
    rfl
  · have hl : l.length ≤ 140737488351232 := by omega
    simp only [crossbarref06_Read.f]
    refine Ev.neg (by omega) (Ev.bind (rhead_ev hb hl) ?_)
    unfold openM
    rw [if_neg c]
    by_cases c1 : (headM l).2.2 = 0
    · have hr := head_fit hb c1
      rw [if_neg (show ¬ ((headM l).2.2 ≠ 0) by simpa using c1)]
      generalize headM l = H at c1 hr
      obtain ⟨a, ha⟩ : ∃ a : Nat, H.2.1 = a := ⟨H.2.1.toNat, by omega⟩
      rw [ha] at hr
      dsimp only [hflat]
      refine Ev.pos c1 ?_
      rw [ha]
      simp only [Int.toNat_natCast]
      by_cases c2 : H.1.ext = true
      · refine Ev.pos c2 ?_
        rw [if_pos c2]
        have hbl := hb.drop a
        have hll : (l.drop a).length = l.length - a := List.length_drop
        unfold openE
        have d2 : ∀ i : Nat, a + i < l.length → rd (l.drop a) (i : Int) = rd l ((a + i : Nat) : Int) := by
          intro i hi
          rw [rd_nat, rd_nat]
          simp [List.getD_eq_getElem?_getD]
        by_cases c3 : (l.drop a).length < 4
        · rw [if_pos c3]
          exact Ev.pos (by rw [w64 (by omega) (by omega)]; omega) (Ev.now _)
        · rw [if_neg c3]
          refine Ev.neg (by rw [w64 (by omega) (by omega)]; omega) ?_
          have n2 := num_ev hb hl (a + 2) 2 (by omega) (by omega) (by omega)
          have n0 := num_ev hb hl a 2 (by omega) (by omega) (by omega)
          rw [be2 _ (by omega)] at n2 n0
          have q0 := d2 0 (by omega)
          have q1 := d2 1 (by omega)
          have q2 := d2 2 (by omega)
          have q3 := d2 3 (by omega)
          have g0 : rd (l.drop a) 0 = rd l (a : Int) := q0
          have g1 : rd (l.drop a) 1 = rd l ((a + 1 : Nat) : Int) := q1
          have g2 : rd (l.drop a) 2 = rd l ((a + 2 : Nat) : Int) := q2
          have g3 : rd (l.drop a) 3 = rd l ((a + 2 + 1 : Nat) : Int) := q3
          rw [← g2, ← g3] at n2
          rw [← g0, ← g1] at n0
          have r0 := brd hbl 0
          have r1 := brd hbl 1
          have r2 := brd hbl 2
          have r3 := brd hbl 3
          generalize hu : rd (l.drop a) 0 * 256 + rd (l.drop a) 1 = u at n0
          generalize hsz : rd (l.drop a) 2 * 256 + rd (l.drop a) 3 = sz at n2
          have n2' : Ev (fun k => crossbarref05_Num.f k l ((a : Int) + 2) 2) sz := n2
          have n0' : Ev (fun k => crossbarref05_Num.f k l (a : Int) 2) u := n0
          rw [w64 (n := (a : Int) + 2) (by omega) (by omega)]
          refine Ev.bind n2' ?_
          rw [w64 (n := (l.length : Int) - a) (by omega) (by omega), w64 (n := (l.length : Int) - a - 4) (by omega) (by omega), w64 (n := sz) (by omega) (by omega), w64 (n := 4 * sz) (by omega) (by omega)]
          by_cases c4 : (l.length : Int) - a - 4 < 4 * sz
          · rw [if_pos (show ((l.drop a).length : Int) - 4 < 4 * sz by omega)]
            exact Ev.pos c4 (Ev.now _)
          · rw [if_neg (show ¬ (((l.drop a).length : Int) - 4 < 4 * sz) by omega)]
            refine Ev.neg c4 (Ev.bind n0' ?_)
            simp only [ob]
            rw [w64 (n := (a : Int) + 4) (by omega) (by omega), w64 (n := (a : Int) + 4 + 4 * sz) (by omega) (by omega), u16w (n := u) (by omega) (by omega)]
            obtain ⟨m, hm⟩ : ∃ m : Nat, 4 * sz = m := ⟨(4 * sz).toNat, by omega⟩
            rw [hm] at c4 ⊢
            have e1 : (l.take ((a : Int) + 4 + m).toNat).drop ((a : Int) + 4).toNat = ((l.drop a).drop 4).take m := by
              rw [List.drop_take, List.drop_drop]
              congr 1
              omega
            have e2 : ((l.drop a).drop 4).drop m = l.drop (a + 4 + m) := by rw [List.drop_drop, List.drop_drop, Nat.add_assoc]
            rw [Int.toNat_natCast, e1, e2, List.nil_append]
            refine Ev.pos (by omega) (Ev.pos (by omega) (Ev.pos (by omega) (Ev.pos (by rw [List.length_take, List.length_drop]; simp only [List.length_nil]; omega) ?_)))
            exact ropenT_ev hb hl (a + 4 + m) (by omega) H.1 u _
      · refine Ev.neg c2 ?_
        rw [if_neg c2]
        exact ropenT_ev hb hl a (by omega) H.1 0 []
    · rw [if_pos (show (headM l).2.2 ≠ 0 from c1)]
      generalize headM l = H at c1
      dsimp only [hflat]
      exact Ev.neg c1 (Ev.now _)
end Go.Proofs.Ytcbdgknfkoodoaa.S
namespace Go.Proofs.Ytcbdgknfkoodoaa.S
open Go.RowKit Go.Proofs.YtcbdgknfkoodoaaW.PrintWords
set_option linter.unusedVariables false
set_option linter.unusedSimpArgs false
def w4 (v : Int) : List Int := [v / 16777216 % 256, v / 65536 % 256, v / 256 % 256, v % 256]
theorem w4_be {y : List Int} (hb : Byt y) (h : y.length = 4) : w4 (be 0 y) = y := by
  match y, h with
  | [a, b, c, d], _ =>
    have ha := hb a (by simp)
    have hb' := hb b (by simp)
    have hc := hb c (by simp)
    have hd := hb d (by simp)
    simp only [w4, be, List.foldl, List.cons.injEq, and_true]
    omega
theorem w4_byt (v : Int) : Byt (w4 v) := by
  intro x hx
  simp only [w4, List.mem_cons, List.not_mem_nil, or_false] at hx
  omega
theorem w4_len (v : Int) : (w4 v).length = 4 := rfl
theorem words_succ (l : List Int) (a n : Nat) : words l a (n + 1) = w32 l a :: words l (a + 4) n := by
  simp only [words, List.range_succ_eq_map, List.map_cons, List.map_map]
  congr 1
  apply List.map_congr_left
  intro i _
  simp only [Function.comp]
  congr 1
  omega
theorem words_len (l : List Int) (a n : Nat) : (words l a n).length = n := by simp [words]
theorem cutn_add (l : List Int) (a m n : Nat) : cutn l a (m + n) = cutn l a m ++ cutn l (a + m) n := by
  simp only [cutn, List.take_add, List.drop_drop]
theorem words_flat {l : List Int} (hb : Byt l) (n : Nat) : ∀ a, a + 4 * n ≤ l.length → (words l a n).flatMap w4 = cutn l a (4 * n) := by
  induction n with
  | zero => intro a _; simp [words, cutn]
  | succ n ih =>
    intro a h
    rw [words_succ, List.flatMap_cons, ih (a + 4) (by omega), w32, w4_be (cutn_byt hb a 4) (cutn_len (by omega)), show 4 * (n + 1) = 4 + 4 * n by omega, cutn_add]
theorem flatMap_w4_len (cs : List Int) : (cs.flatMap w4).length = 4 * cs.length := by
  induction cs with
  | nil => rfl
  | cons c cs ih => rw [List.flatMap_cons, List.length_append, ih, w4_len, List.length_cons]; omega
def bi (b : Bool) (n : Int) : Int := if b = true then n else 0
def hb0 (h : Hd) : Int := 128 + h.csrc.length + bi h.pad 32 + bi h.ext 16
def hb1 (h : Hd) : Int := h.typ + bi h.mark 128
def hdr (h : Hd) : List Int := hb0 h :: hb1 h :: (h.seq / 256 % 256) :: (h.seq % 256) :: (w4 h.tm ++ (w4 h.ssrc ++ h.csrc.flatMap w4))
theorem hdr_len (h : Hd) : (hdr h).length = 12 + 4 * h.csrc.length := by
  simp only [hdr, List.length_cons, List.length_append, w4_len, flatMap_w4_len]
  omega
structure HOk (h : Hd) : Prop where
  typ : 0 ≤ h.typ ∧ h.typ ≤ 127
  n : h.csrc.length ≤ 15
  seq : 0 ≤ h.seq ∧ h.seq ≤ 65535
  tm : 0 ≤ h.tm ∧ h.tm < 4294967296
  ssrc : 0 ≤ h.ssrc ∧ h.ssrc < 4294967296
  csrc : ∀ v ∈ h.csrc, 0 ≤ v ∧ v < 4294967296
theorem bi_or (b : Bool) (n : Int) : b = true ∧ bi b n = n ∨ b = false ∧ bi b n = 0 := by cases b <;> simp [bi]
theorem hdr_head {l : List Int} (hb : Byt l) (h0 : (headM l).2.2 = 0) : HOk (headM l).1 ∧ l = hdr (headM l).1 ++ l.drop (headM l).2.1.toNat := by
  have r0 := brd hb 0
  have r1 := brd hb 1
  have r2 := brd hb 2
  have r3 := brd hb 3
  unfold headM at h0 ⊢
  by_cases c1 : l.length < 12
  · rw [if_pos c1] at h0; exact absurd h0 (by decide)
  · rw [if_neg c1] at h0 ⊢
    by_cases c2 : rd l 0 / 64 ≠ 2
    · rw [if_pos c2] at h0; exact absurd h0 (by decide)
    · rw [if_neg c2] at h0 ⊢
      by_cases c3 : (l.length : Int) < 12 + 4 * (rd l 0 % 16)
      · rw [if_pos c3] at h0; exact absurd h0 (by decide)
      · rw [if_neg c3]
        have hn : ((rd l 0 % 16).toNat : Int) = rd l 0 % 16 := by omega
        generalize hN : (rd l 0 % 16).toNat = N at hn
        refine ⟨⟨by dsimp only; omega, by dsimp only; rw [words_len]; omega, by dsimp only; omega, w32_range hb 4 (by omega), w32_range hb 8 (by omega), ?_⟩, ?_⟩
        · intro v hv
          simp only [words, List.mem_map, List.mem_range] at hv
          obtain ⟨i, hi, rfl⟩ := hv
          exact w32_range hb _ (by omega)
        · dsimp only
          unfold hdr hb0 hb1
          dsimp only
          rw [words_len, words_flat hb N 12 (by omega), w32, w32, w4_be (cutn_byt hb 4 4) (cutn_len (by omega)), w4_be (cutn_byt hb 8 4) (cutn_len (by omega))]
          have q0 : 128 + (N : Int) + bi (decide (rd l 0 / 32 % 2 = 1)) 32 + bi (decide (rd l 0 / 16 % 2 = 1)) 16 = rd l 0 := by
            unfold bi
            simp only [decide_eq_true_eq]
            split <;> split <;> omega
          have q1 : rd l 1 % 128 + bi (decide (128 ≤ rd l 1)) 128 = rd l 1 := by
            unfold bi
            simp only [decide_eq_true_eq]
            split <;> omega
          rw [q0, q1, show (rd l 2 * 256 + rd l 3) / 256 % 256 = rd l 2 by omega, show (rd l 2 * 256 + rd l 3) % 256 = rd l 3 by omega, show (12 + 4 * (rd l 0 % 16)).toNat = 12 + 4 * N by omega]
          have d0 : l = rd l 0 :: l.drop 1 := by have := List.drop_eq_getElem_cons (show 0 < l.length by omega); rw [List.drop_zero] at this; rw [rd_eq (by omega) (by omega)]; exact this
          have d1 : l.drop 1 = rd l 1 :: l.drop 2 := by have := List.drop_eq_getElem_cons (show 1 < l.length by omega); rw [rd_eq (by omega) (by omega)]; exact this
          have d2 : l.drop 2 = rd l 2 :: l.drop 3 := by have := List.drop_eq_getElem_cons (show 2 < l.length by omega); rw [rd_eq (by omega) (by omega)]; exact this
          have d3 : l.drop 3 = rd l 3 :: l.drop 4 := by have := List.drop_eq_getElem_cons (show 3 < l.length by omega); rw [rd_eq (by omega) (by omega)]; exact this
          have d4 : l.drop 4 = cutn l 4 4 ++ l.drop 8 := by unfold cutn; rw [show l.drop 8 = (l.drop 4).drop 4 by rw [List.drop_drop], List.take_append_drop]
          have d8 : l.drop 8 = cutn l 8 4 ++ l.drop 12 := by unfold cutn; rw [show l.drop 12 = (l.drop 8).drop 4 by rw [List.drop_drop], List.take_append_drop]
          have d12 : l.drop 12 = cutn l 12 (4 * N) ++ l.drop (12 + 4 * N) := by unfold cutn; rw [← List.drop_drop, List.take_append_drop]
          conv => lhs; rw [d0, d1, d2, d3, d4, d8, d12]
          simp only [List.cons_append, List.append_assoc]
structure POk (p : Pk) : Prop where
  h : HOk p.h
  prof : 0 ≤ p.prof ∧ p.prof ≤ 65535
  ex : Byt p.ex
  pl : Byt p.pl
  ex4 : p.ex.length % 4 = 0
  exn : p.ex.length / 4 ≤ 65535
  none : p.h.ext = false → p.prof = 0 ∧ p.ex = []
  padt : p.h.pad = true → 1 ≤ p.padn ∧ p.padn ≤ 255
  padf : p.h.pad = false → p.padn = 0
def sumM (p : Pk) : Int := 12 + 4 * (p.h.csrc.length : Int) + p.pl.length + p.padn + (if p.h.ext = true then 4 + (p.ex.length : Int) else 0)
def extB (p : Pk) : List Int := if p.h.ext = true then (p.prof / 256 % 256) :: (p.prof % 256) :: ((p.ex.length : Int) / 4 / 256 % 256) :: ((p.ex.length : Int) / 4 % 256) :: p.ex else []
def fore (p : Pk) : List Int := hdr p.h ++ (extB p ++ p.pl)
def fill (p : Pk) : List Int := if p.h.pad = true then List.replicate (p.padn.toNat - 1) 0 ++ [p.padn] else []
def writeM (p : Pk) : List Int := fore p ++ fill p
structure Tr (p : Pk) (t : List Int) : Prop where
  byt : Byt t
  len : (t.length : Int) = p.padn
  last : p.h.pad = true → rd t ((t.length : Int) - 1) = p.padn
theorem fore_len (p : Pk) : ((fore p).length : Int) + p.padn = sumM p := by
  unfold fore extB sumM
  rw [List.length_append, List.length_append, hdr_len]
  by_cases c : p.h.ext = true
  · simp only [if_pos c, List.length_cons]; omega
  · simp only [if_neg c, List.length_nil]; omega
theorem fill_tr {p : Pk} (ok : POk p) : Tr p (fill p) := by
  unfold fill
  by_cases c : p.h.pad = true
  · have := ok.padt c
    rw [if_pos c]
    refine ⟨?_, by simp; omega, fun _ => ?_⟩
    · intro x hx
      rcases List.mem_append.1 hx with hx | hx
      · have := (List.mem_replicate.1 hx).2; omega
      · simp at hx; omega
    · unfold rd
      have e : ((((List.replicate (p.padn.toNat - 1) (0 : Int)) ++ [p.padn]).length : Int) - 1).toNat = (List.replicate (p.padn.toNat - 1) (0 : Int)).length := by simp
      rw [e, List.getD_eq_getElem?_getD, List.getElem?_append_right (Nat.le_refl _)]
      simp
  · rw [if_neg c]
    exact ⟨fun x hx => by simp at hx, by simp [ok.padf (by simpa using c)], fun h => absurd h c⟩
theorem trail_at {p : Pk} (ok : POk p) {t : List Int} (tr : Tr p t) (y : List Int) (c : p.h.pad = true) : trailM (y ++ t) = p.padn := by
  have hp := ok.padt c
  have hl := tr.len
  have e : rd (y ++ t) (((y ++ t).length : Int) - 1) = p.padn := by
    rw [← tr.last c]
    unfold rd
    rw [List.getD_eq_getElem?_getD, List.getD_eq_getElem?_getD, List.length_append, List.getElem?_append_right (by omega)]
    congr 2
    omega
  unfold trailM
  rw [e, if_neg (by rw [List.length_append]; omega), if_neg (by rw [List.length_append]; omega)]
theorem openT_of {left : List Int} (hb : Byt left) (h : Hd) (prof : Int) (ex : List Int) (h0 : (openT left h prof ex).2.2 = 0) :
    left = (openT left h prof ex).1.pl ++ (openT left h prof ex).2.1 ∧ Tr (openT left h prof ex).1 (openT left h prof ex).2.1 := by
  have ft := openT_fit hb h prof ex h0
  unfold openT at h0 ft ⊢
  by_cases c : h.pad = true
  · rw [if_pos c] at h0 ft ⊢
    by_cases c2 : trailM left = 0
    · rw [if_pos c2] at h0; exact absurd h0 (by decide)
    · rw [if_neg c2] at ft ⊢
      have ht := trailM_le left c2
      dsimp only at ft ⊢
      refine ⟨(List.take_append_drop _ _).symm, hb.drop _, by rw [List.length_drop]; dsimp only; omega, fun _ => ?_⟩
      dsimp only
      have e : trailM left = rd left ((left.length : Int) - 1) := by
        unfold trailM at c2 ⊢
        split
        · rename_i z; rw [if_pos z] at c2; exact absurd rfl c2
        · rename_i z
          rw [if_neg z] at c2
          split
          · rename_i z2; rw [if_pos z2] at c2; exact absurd rfl c2
          · rfl
      conv => rhs; rw [e]
      unfold rd
      rw [List.getD_eq_getElem?_getD, List.getD_eq_getElem?_getD, List.getElem?_drop, List.length_drop]
      congr 2
      omega
  · rw [if_neg c]
    exact ⟨by simp, fun x hx => by simp at hx, rfl, fun h => absurd h c⟩
theorem open_of {l : List Int} (hb : Byt l) (h0 : (openM l).2.2 = 0) : POk (openM l).1 ∧ Tr (openM l).1 (openM l).2.1 ∧ l = fore (openM l).1 ++ (openM l).2.1 ∧ l.length ≤ 65535 := by
  unfold openM at h0 ⊢
  by_cases c : 65535 < l.length
  · rw [if_pos c] at h0; exact absurd h0 (by decide)
  · rw [if_neg c] at h0 ⊢
    by_cases c1 : (headM l).2.2 ≠ 0
    · rw [if_pos c1] at h0; exact absurd h0 c1
    · rw [if_neg c1] at h0 ⊢
      have hh := hdr_head hb (by simpa using c1)
      have hf := head_fit hb (by simpa using c1)
      generalize headM l = H at h0 hh hf c1 ⊢
      obtain ⟨hok, hl⟩ := hh
      have hbl := hb.drop H.2.1.toNat
      have hll : (l.drop H.2.1.toNat).length = l.length - H.2.1.toNat := List.length_drop
      generalize hL : l.drop H.2.1.toNat = left at h0 hl hbl hll ⊢
      by_cases c2 : H.1.ext = true
      · rw [if_pos c2] at h0 ⊢
        unfold openE at h0 ⊢
        by_cases c3 : left.length < 4
        · rw [if_pos c3] at h0; exact absurd h0 (by decide)
        · rw [if_neg c3] at h0 ⊢
          by_cases c4 : (left.length : Int) - 4 < 4 * (rd left 2 * 256 + rd left 3)
          · rw [if_pos c4] at h0; exact absurd h0 (by decide)
          · rw [if_neg c4] at h0 ⊢
            have r0 := brd hbl 0
            have r1 := brd hbl 1
            have r2 := brd hbl 2
            have r3 := brd hbl 3
            have fo := openT_of ((hbl.drop 4).drop _) H.1 (rd left 0 * 256 + rd left 1) ((left.drop 4).take (4 * (rd left 2 * 256 + rd left 3)).toNat) h0
            obtain ⟨e1, e2, e3, e4, e5, e6, e7, e8⟩ := openT_fit ((hbl.drop 4).drop _) H.1 (rd left 0 * 256 + rd left 1) ((left.drop 4).take (4 * (rd left 2 * 256 + rd left 3)).toNat) h0
            generalize openT ((left.drop 4).drop (4 * (rd left 2 * 256 + rd left 3)).toNat) H.1 (rd left 0 * 256 + rd left 1) ((left.drop 4).take (4 * (rd left 2 * 256 + rd left 3)).toNat) = o at e1 e2 e3 e4 e5 e6 e7 e8 fo ⊢
            have hx : o.1.ex.length = (4 * (rd left 2 * 256 + rd left 3)).toNat := by rw [e2, List.length_take, List.length_drop]; omega
            refine ⟨⟨e1 ▸ hok, by rw [e3]; omega, by rw [e2]; exact (hbl.drop 4).take _, ?_, by rw [hx]; omega, by rw [hx]; omega, fun h => absurd c2 (by rw [e1] at h; rw [h]; decide), fun h => ⟨e6 (e1 ▸ h), e5⟩, fun h => e7 (e1 ▸ h)⟩, fo.2, ?_, by omega⟩
            · intro x hx
              exact ((hbl.drop 4).drop (4 * (rd left 2 * 256 + rd left 3)).toNat) x (by rw [fo.1]; exact List.mem_append_left _ hx)
            · unfold fore extB
              rw [e1, if_pos c2, e3, hx]
              have q2 : (((4 * (rd left 2 * 256 + rd left 3)).toNat : Nat) : Int) = 4 * (rd left 2 * 256 + rd left 3) := by omega
              rw [q2, show (rd left 0 * 256 + rd left 1) / 256 % 256 = rd left 0 by omega, show (rd left 0 * 256 + rd left 1) % 256 = rd left 1 by omega, show 4 * (rd left 2 * 256 + rd left 3) / 4 / 256 % 256 = rd left 2 by omega, show 4 * (rd left 2 * 256 + rd left 3) / 4 % 256 = rd left 3 by omega]
              have d0 : left = rd left 0 :: left.drop 1 := by have := List.drop_eq_getElem_cons (show 0 < left.length by omega); rw [List.drop_zero] at this; rw [rd_eq (by omega) (by omega)]; exact this
              have d1 : left.drop 1 = rd left 1 :: left.drop 2 := by have := List.drop_eq_getElem_cons (show 1 < left.length by omega); rw [rd_eq (by omega) (by omega)]; exact this
              have d2 : left.drop 2 = rd left 2 :: left.drop 3 := by have := List.drop_eq_getElem_cons (show 2 < left.length by omega); rw [rd_eq (by omega) (by omega)]; exact this
              have d3 : left.drop 3 = rd left 3 :: left.drop 4 := by have := List.drop_eq_getElem_cons (show 3 < left.length by omega); rw [rd_eq (by omega) (by omega)]; exact this
              have d4 : left.drop 4 = o.1.ex ++ (o.1.pl ++ o.2.1) := by rw [← fo.1, e2, List.take_append_drop]
              rw [d4] at d3
              rw [d3] at d2
              rw [d2] at d1
              rw [d1] at d0
              conv => lhs; rw [hl, d0]
              simp only [List.cons_append, List.append_assoc]
      · rw [if_neg c2] at h0 ⊢
        have fo := openT_of hbl H.1 0 [] h0
        obtain ⟨e1, e2, e3, e4, e5, e6, e7, e8⟩ := openT_fit hbl H.1 0 [] h0
        generalize openT left H.1 0 [] = o at e1 e2 e3 e4 e5 e6 e7 e8 fo ⊢
        refine ⟨⟨e1 ▸ hok, by rw [e3]; omega, by rw [e2]; intro x hx; simp at hx, ?_, by rw [e2]; rfl, by rw [e2]; decide, fun _ => ⟨e3, e2⟩, fun h => ⟨e6 (e1 ▸ h), e5⟩, fun h => e7 (e1 ▸ h)⟩, fo.2, ?_, by omega⟩
        · intro x hx
          exact hbl x (by rw [fo.1]; exact List.mem_append_left _ hx)
        · unfold fore extB
          rw [e1, if_neg c2, List.nil_append, List.append_assoc, ← fo.1]
          exact hl
theorem canon_iff {p : Pk} (ok : POk p) {t : List Int} (tr : Tr p t) : (writeM p = fore p ++ t) ↔ (p.h.pad = true → t = List.replicate (t.length - 1) 0 ++ [p.padn]) := by
  unfold writeM
  rw [List.append_cancel_left_eq]
  have hl := tr.len
  unfold fill
  by_cases c : p.h.pad = true
  · rw [if_pos c, show p.padn.toNat - 1 = t.length - 1 by omega]
    exact ⟨fun h _ => h.symm, fun h => (h c).symm⟩
  · have := ok.padf (by simpa using c)
    have ht : t = [] := List.eq_nil_of_length_eq_zero (by omega)
    rw [if_neg c, ht]
    exact ⟨fun _ h => absurd h c, fun _ => rfl⟩
end Go.Proofs.Ytcbdgknfkoodoaa.S
namespace Go.Proofs.Ytcbdgknfkoodoaa.S
open Go.RowKit Go.Proofs.YtcbdgknfkoodoaaW.PrintWords Go.Proofs.Ytcbdgknfkoodoaa.F
set_option linter.unusedVariables false
set_option linter.unusedSimpArgs false
def FitsP (p : Pk) : Prop := ((0 ≤ p.h.typ ∧ p.h.typ ≤ 127) ∧ p.h.csrc.length ≤ 15) ∧ (p.ex.length % 4 = 0 ∧ p.ex.length / 4 ≤ 65535) ∧ (p.h.ext = false → p.prof = 0 ∧ p.ex.length = 0) ∧ (p.h.pad = true → 1 ≤ p.padn ∧ p.padn ≤ 255) ∧ (p.h.pad = false → p.padn = 0)
instance (p : Pk) : Decidable (FitsP p) := by unfold FitsP; infer_instance
def RightP (p : Pk) : Prop := FitsP p ∧ sumM p ≤ 65535
instance (p : Pk) : Decidable (RightP p) := by unfold RightP; infer_instance
structure In (p : Pk) : Prop where
  seq : 0 ≤ p.h.seq ∧ p.h.seq ≤ 65535
  tm : 0 ≤ p.h.tm ∧ p.h.tm < 4294967296
  ssrc : 0 ≤ p.h.ssrc ∧ p.h.ssrc < 4294967296
  csrc : ∀ v ∈ p.h.csrc, 0 ≤ v ∧ v < 4294967296
  prof : 0 ≤ p.prof ∧ p.prof ≤ 65535
  ex : Byt p.ex
  pl : Byt p.pl
  exl : p.ex.length ≤ 300000
  pll : p.pl.length ≤ 70000
theorem In.ok {p : Pk} (i : In p) (f : FitsP p) : POk p :=
  ⟨⟨f.1.1, f.1.2, i.seq, i.tm, i.ssrc, i.csrc⟩, i.prof, i.ex, i.pl, f.2.1.1, f.2.1.2, fun h => ⟨(f.2.2.1 h).1, List.eq_nil_of_length_eq_zero (f.2.2.1 h).2⟩, f.2.2.2.1, f.2.2.2.2⟩
theorem hright_eq (h : Hd) : head_Right.f h.pad h.ext h.mark h.typ h.seq h.tm h.ssrc h.csrc = some (decide ((0 ≤ h.typ ∧ h.typ ≤ 127) ∧ h.csrc.length ≤ 15)) := by
  unfold head_Right.f
  by_cases c1 : 0 ≤ h.typ
  · rw [if_pos (show h.typ ≥ 0 from c1)]
    by_cases c2 : h.typ ≤ 127
    · rw [if_pos c2]
      congr 1
      rw [decide_eq_decide]
      omega
    · rw [if_neg c2, decide_eq_false (fun h => c2 h.1.2)]
  · rw [if_neg (show ¬ (h.typ ≥ 0) from c1), decide_eq_false (fun h => c1 h.1.1)]
theorem fits_ev (p : Pk) (hx : p.ex.length ≤ 300000) : Ev (fun k => packet_fits.f k p.h.pad p.h.ext p.h.mark p.h.typ p.h.seq p.h.tm p.h.ssrc p.h.csrc p.prof p.ex p.pl p.padn) (decide (FitsP p)) := by
  have j0t : Ev (fun k => packet_fits.j0 k true p.h.pad p.h.ext p.h.mark p.h.typ p.h.seq p.h.tm p.h.ssrc p.h.csrc p.prof p.ex p.pl p.padn) false := Ev.step (fun k => by rw [packet_fits.j0]) (Ev.pos rfl (Ev.now _))
  have j1t : Ev (fun k => packet_fits.j1 k true p.h.pad p.h.ext p.h.mark p.h.typ p.h.seq p.h.tm p.h.ssrc p.h.csrc p.prof p.ex p.pl p.padn) false := Ev.step (fun k => by rw [packet_fits.j1]) (Ev.pos rfl (Ev.now _))
  have j1f : Ev (fun k => packet_fits.j1 k false p.h.pad p.h.ext p.h.mark p.h.typ p.h.seq p.h.tm p.h.ssrc p.h.csrc p.prof p.ex p.pl p.padn) (decide ((p.h.pad = true → 1 ≤ p.padn ∧ p.padn ≤ 255) ∧ (p.h.pad = false → p.padn = 0))) := by
    refine Ev.step (fun k => by rw [packet_fits.j1]) (Ev.neg (by decide) ?_)
    by_cases c : p.h.pad = true
    · refine Ev.pos c ?_
      by_cases c1 : p.padn ≥ 1
      · refine Ev.pos c1 (Ev.congr (f := fun _ => some (decide (p.padn ≤ 255))) (fun k => rfl) ?_)
        rw [show decide (p.padn ≤ 255) = decide ((p.h.pad = true → 1 ≤ p.padn ∧ p.padn ≤ 255) ∧ (p.h.pad = false → p.padn = 0)) by rw [decide_eq_decide]; simp [c]; omega]
        exact Ev.now _
      · rw [decide_eq_false (show ¬ ((p.h.pad = true → 1 ≤ p.padn ∧ p.padn ≤ 255) ∧ (p.h.pad = false → p.padn = 0)) from fun h => c1 (h.1 c).1)]
        exact Ev.neg c1 (Ev.now _)
    · have c' : p.h.pad = false := by simpa using c
      refine Ev.neg c (Ev.eq fun k => ?_)
      congr 1
      rw [Bool.eq_iff_iff]
      simp [c']
  have fin : ∀ {g : Nat → Option Bool} {b : Bool}, Ev g b → b = decide (FitsP p) → Ev g (decide (FitsP p)) := fun e h => h ▸ e
  have no : ∀ {g : Nat → Option Bool}, ¬ FitsP p → Ev g false → Ev g (decide (FitsP p)) := fun h e => fin e (decide_eq_false h).symm
  simp only [packet_fits.f]
  rw [hright_eq]
  simp only [ob]
  by_cases c1 : (0 ≤ p.h.typ ∧ p.h.typ ≤ 127) ∧ p.h.csrc.length ≤ 15
  · refine Ev.pos (decide_eq_true c1) ?_
    by_cases c2 : ((p.ex.length : Int) % 4) = 0
    · refine Ev.pos c2 ?_
      rw [w64 (by omega) (by omega)]
      by_cases c3 : (p.ex.length : Int) / 4 > 65535
      · rw [decide_eq_true c3]
        exact no (fun h => by have := h.2.1.2; omega) j0t
      · rw [decide_eq_false c3]
        refine Ev.step (fun k => by rw [packet_fits.j0]) (Ev.neg (by decide) ?_)
        by_cases c4 : p.h.ext = true
        · refine Ev.pos c4 (fin j1f ?_)
          rw [decide_eq_decide]
          exact ⟨fun h => ⟨c1, ⟨by omega, by omega⟩, fun h => absurd c4 (by rw [h]; decide), h.1, h.2⟩, fun h => ⟨h.2.2.2.1, h.2.2.2.2⟩⟩
        · refine Ev.neg c4 ?_
          have c4' : p.h.ext = false := by simpa using c4
          by_cases c5 : p.prof = 0
          · refine Ev.pos c5 ?_
            by_cases c6 : p.ex.length = 0
            · have e : ((p.ex.length : Int) != 0) = false := by simp [c6]
              rw [e]
              refine fin j1f ?_
              rw [decide_eq_decide]
              exact ⟨fun h => ⟨c1, ⟨by omega, by omega⟩, fun _ => ⟨c5, c6⟩, h.1, h.2⟩, fun h => ⟨h.2.2.2.1, h.2.2.2.2⟩⟩
            · have e : ((p.ex.length : Int) != 0) = true := by simp; intro h; exact c6 (by rw [h]; rfl)
              rw [e]
              exact no (fun h => c6 (h.2.2.1 c4').2) j1t
          · exact Ev.neg c5 (no (fun h => c5 (h.2.2.1 c4').1) j1t)
    · exact Ev.neg c2 (no (fun h => by have := h.2.1.1; omega) j0t)
  · exact Ev.neg (by rw [decide_eq_false c1]; decide) (no (fun h => c1 h.1) j0t)
theorem sum_eq {p : Pk} (f : FitsP p) (hx : p.ex.length ≤ 300000) (hl : p.pl.length ≤ 70000) : packet_sum.f p.h.pad p.h.ext p.h.mark p.h.typ p.h.seq p.h.tm p.h.ssrc p.h.csrc p.prof p.ex p.pl p.padn = some (sumM p) := by
  have hp : 0 ≤ p.padn ∧ p.padn ≤ 255 := by
    by_cases c : p.h.pad = true
    · have := f.2.2.2.1 c; omega
    · have := f.2.2.2.2 (by simpa using c); omega
  have hn := f.1.2
  unfold packet_sum.f head_Size.f
  rw [hright_eq]
  simp only [ob]
  rw [if_pos (decide_eq_true f.1), w64 (n := 4 * _) (by omega) (by omega), w64 (n := 12 + _) (by omega) (by omega)]
  simp only [ob]
  rw [w64 (n := 12 + 4 * (p.h.csrc.length : Int) + _) (by omega) (by omega), w64 (n := 12 + 4 * (p.h.csrc.length : Int) + _ + _) (by omega) (by omega), w64 (n := 4 + _) (by omega) (by omega)]
  unfold sumM
  by_cases c : p.h.ext = true
  · rw [if_pos c, if_pos c, w64 (by omega) (by omega)]
  · rw [if_neg c, if_neg c, Int.add_zero]
theorem right_ev (p : Pk) (hx : p.ex.length ≤ 300000) (hl : p.pl.length ≤ 70000) : Ev (fun k => packet_Right.f k p.h.pad p.h.ext p.h.mark p.h.typ p.h.seq p.h.tm p.h.ssrc p.h.csrc p.prof p.ex p.pl p.padn) (decide (RightP p)) := by
  simp only [packet_Right.f]
  refine Ev.bind (fits_ev p hx) ?_
  by_cases f : FitsP p
  · refine Ev.pos (decide_eq_true f) (Ev.eq fun k => ?_)
    rw [sum_eq f hx hl]
    simp only [ob]
    congr 1
    rw [decide_eq_decide]
    exact ⟨fun h => ⟨f, h⟩, fun h => h.2⟩
  · rw [decide_eq_false (fun h : RightP p => f h.1)]
    exact Ev.neg (by rw [decide_eq_false f]; decide) (Ev.now _)
theorem size_ev (p : Pk) (hx : p.ex.length ≤ 300000) (hl : p.pl.length ≤ 70000) : Ev (fun k => packet_Size.f k p.h.pad p.h.ext p.h.mark p.h.typ p.h.seq p.h.tm p.h.ssrc p.h.csrc p.prof p.ex p.pl p.padn) (if RightP p then sumM p else 0) := by
  simp only [packet_Size.f]
  refine Ev.bind (right_ev p hx hl) ?_
  by_cases r : RightP p
  · rw [if_pos r]
    refine Ev.pos (decide_eq_true r) (Ev.eq fun k => ?_)
    rw [sum_eq r.1 hx hl]
    simp only [ob]
  · rw [if_neg r]
    exact Ev.neg (by rw [decide_eq_false r]; decide) (Ev.now _)
theorem word_eq {l : List Int} (hl : l.length ≤ 1000000) (v : Int) : head_word.f l v = some (l ++ w4 v) := by
  unfold head_word.f
  simp only [ob]
  rw [if_pos (by simp only [List.length_cons, List.length_nil]; omega)]
  rfl
theorem hwrite_loop {cs : List Int} (hn : cs.length ≤ 15) (pre : List Int) (hp : pre.length ≤ 100) : ∀ (d i : Nat), i + d = cs.length → Ev (fun k => head_Write.l0 k (pre ++ (cs.take i).flatMap w4) cs (cs.length : Int) (i : Int)) (pre ++ cs.flatMap w4, 0) := by
  intro d
  induction d with
  | zero =>
    intro i hi
    rw [List.take_of_length_le (by omega)]
    exact Ev.step (fun k => by rw [head_Write.l0]) (Ev.neg (by omega) (Ev.now _))
  | succ d ih =>
    intro i hi
    have hl : ((cs.take i).flatMap w4).length = 4 * i := by rw [flatMap_w4_len, List.length_take]; omega
    refine Ev.step (fun k => by rw [head_Write.l0]) (Ev.pos (by omega) (Ev.pos (by omega) (Ev.pos (by omega) ?_)))
    rw [word_eq (by rw [List.length_append]; omega), w64 (by omega) (by omega)]
    simp only [ob]
    have := ih (i + 1) (by omega)
    have hr : rd cs (i : Int) = cs[i]'(by omega) := by rw [rd_eq (by omega) (by omega)]; rfl
    rw [List.take_succ_eq_append_getElem (show i < cs.length by omega), List.flatMap_append, List.flatMap_singleton, ← hr, ← List.append_assoc] at this
    exact this
theorem or_hdr : ∀ n : Nat, n < 16 → Go.bits .or .i64 128 (n : Int) % 256 = 128 + (n : Int) ∧ Go.bits .or .u8 (128 + (n : Int)) 32 = 128 + (n : Int) + 32 ∧ Go.bits .or .u8 (128 + (n : Int)) 16 = 128 + (n : Int) + 16 ∧ Go.bits .or .u8 (128 + (n : Int) + 32) 16 = 128 + (n : Int) + 32 + 16 := by decide +kernel
theorem or_typ : ∀ n : Nat, n < 128 → Go.bits .or .u8 ((n : Int) % 256) 128 = (n : Int) + 128 := by decide +kernel
theorem hwrite_ev {h : Hd} (ok : HOk h) : Ev (fun k => head_Write.f k h.pad h.ext h.mark h.typ h.seq h.tm h.ssrc h.csrc) (hdr h, 0) := by
  have n := ok.n
  have ty := ok.typ
  obtain ⟨o0, o1, o2, o3⟩ := or_hdr h.csrc.length (by omega)
  have ot := or_typ h.typ.toNat (by omega)
  rw [show ((h.typ.toNat : Nat) : Int) = h.typ by omega] at ot
  have j2 : Ev (fun k => head_Write.j2 k (hb0 h) (hb1 h) h.pad h.ext h.mark h.typ h.seq h.tm h.ssrc h.csrc) (hdr h, 0) := by
    refine Ev.step (fun k => by rw [head_Write.j2]) ?_
    rw [w64 (n := 4 * (h.csrc.length : Int)) (by omega) (by omega), w64 (by omega) (by omega)]
    refine Ev.pos (by omega) (Ev.pos (by omega) ?_)
    simp only [ob]
    refine Ev.pos (by simp only [List.length_cons, List.length_nil]; omega) ?_
    rw [List.nil_append, word_eq (by simp)]
    simp only [ob]
    rw [word_eq (by simp [w4_len])]
    simp only [ob]
    have := hwrite_loop n (([hb0 h, hb1 h, h.seq / 256 % 256, h.seq % 256] ++ w4 h.tm) ++ w4 h.ssrc) (by simp [w4_len]) h.csrc.length 0 (by omega)
    rw [List.take_zero, List.flatMap_nil, List.append_nil] at this
    have e : hdr h = (([hb0 h, hb1 h, h.seq / 256 % 256, h.seq % 256] ++ w4 h.tm) ++ w4 h.ssrc) ++ h.csrc.flatMap w4 := by simp [hdr]
    rw [e]
    exact this
  have j1 : Ev (fun k => head_Write.j1 k (hb0 h) h.pad h.ext h.mark h.typ h.seq h.tm h.ssrc h.csrc) (hdr h, 0) := by
    refine Ev.step (fun k => by rw [head_Write.j1]) ?_
    by_cases c : h.mark = true
    · refine Ev.pos c ?_
      rw [ot, show h.typ + 128 = hb1 h by simp [hb1, bi, c]]
      exact j2
    · refine Ev.neg c ?_
      rw [show h.typ % 256 = hb1 h by simp [hb1, bi, c]; omega]
      exact j2
  simp only [head_Write.f]
  rw [hright_eq]
  simp only [ob]
  refine Ev.pos (decide_eq_true ⟨ty, n⟩) ?_
  rw [o0]
  by_cases c : h.pad = true
  · refine Ev.pos c (Ev.step (fun k => by rw [head_Write.j0]) ?_)
    rw [o1]
    by_cases c2 : h.ext = true
    · refine Ev.pos c2 ?_
      rw [o3, show 128 + (h.csrc.length : Int) + 32 + 16 = hb0 h by simp [hb0, bi, c, c2]]
      exact j1
    · refine Ev.neg c2 ?_
      rw [show 128 + (h.csrc.length : Int) + 32 = hb0 h by simp [hb0, bi, c, c2]]
      exact j1
  · refine Ev.neg c (Ev.step (fun k => by rw [head_Write.j0]) ?_)
    by_cases c2 : h.ext = true
    · refine Ev.pos c2 ?_
      rw [o2, show 128 + (h.csrc.length : Int) + 16 = hb0 h by simp [hb0, bi, c, c2]]
      exact j1
    · refine Ev.neg c2 ?_
      rw [show 128 + (h.csrc.length : Int) = hb0 h by simp [hb0, bi, c, c2]]
      exact j1
theorem padd_eq {l : List Int} (hl : l.length ≤ 1000000) {n : Int} (h0 : 1 ≤ n) (h1 : n ≤ 255) : pad_Add.f l n = some (l ++ (List.replicate (n.toNat - 1) 0 ++ [n]), 0) := by
  obtain ⟨m, hm⟩ : ∃ m : Nat, n = (m : Int) + 1 := ⟨n.toNat - 1, by omega⟩
  subst hm
  unfold pad_Add.f
  rw [if_neg (by omega), if_neg (by omega), w64 (by omega) (by omega), if_pos (by omega), if_pos (by omega)]
  simp only [ob]
  rw [List.length_replicate, show (((l.length : Int) + ((m : Int) + 1)).toNat) = l.length + (m + 1) by omega, w64 (by omega) (by omega), if_pos (by omega), if_pos (by omega), show min l.length (l.length + (m + 1)) = l.length by omega, List.take_length, List.drop_replicate, show l.length + (m + 1) - l.length = m + 1 by omega, List.replicate_succ', show ((((l.length + (m + 1) : Nat) : Int) - 1).toNat) = l.length + m by omega, show ((m : Int) + 1) % 256 = (m : Int) + 1 by omega, show ((m : Int) + 1).toNat - 1 = m by omega]
  congr 2
  rw [List.set_append_right _ _ (by omega), List.set_append_right _ _ (by rw [List.length_replicate]; omega)]
  simp
theorem write_ev (p : Pk) (i : In p) (room : Int) : Ev (fun k => packet_Write.f k p.h.pad p.h.ext p.h.mark p.h.typ p.h.seq p.h.tm p.h.ssrc p.h.csrc p.prof p.ex p.pl p.padn room) (if RightP p then (if sumM p > room then ([], 7) else (writeM p, 0)) else ([], 1)) := by
  simp only [packet_Write.f]
  refine Ev.bind (right_ev p i.exl i.pll) ?_
  by_cases r : RightP p
  · rw [if_pos r]
    refine Ev.pos (decide_eq_true r) ?_
    rw [sum_eq r.1 i.exl i.pll]
    simp only [ob]
    by_cases c : sumM p > room
    · rw [if_pos c]
      exact Ev.pos c (Ev.now _)
    · rw [if_neg c]
      refine Ev.neg c ?_
      have ok := i.ok r.1
      have hex := i.exl
      have hpl := i.pll
      have hhl := hdr_len p.h
      have hn := ok.h.n
      refine Ev.bind (hwrite_ev ok.h) (Ev.pos rfl ?_)
      have j0 : ∀ x : List Int, x.length ≤ 400000 → Ev (fun k => packet_Write.j0 k x p.h.pad p.h.ext p.h.mark p.h.typ p.h.seq p.h.tm p.h.ssrc p.h.csrc p.prof p.ex p.pl p.padn) ((x ++ p.pl) ++ fill p, 0) := by
        intro x hx
        refine Ev.step (fun k => by rw [packet_Write.j0]) ?_
        have e := join_ev (ls := [x, p.pl]) (by simp) (by simp; omega)
        rw [show [x, p.pl].flatten = x ++ p.pl by simp] at e
        refine Ev.bind e ?_
        unfold fill
        by_cases c : p.h.pad = true
        · have hp := ok.padt c
          refine Ev.pos c (Ev.eq fun k => ?_)
          rw [padd_eq (by rw [List.length_append]; omega) hp.1 hp.2, if_pos c]
          simp only [ob]
        · refine Ev.neg c ?_
          rw [if_neg c, List.append_nil]
          exact Ev.now _
      have e2 : writeM p = ((hdr p.h ++ extB p) ++ p.pl) ++ fill p := by simp only [writeM, fore, List.append_assoc]
      rw [e2]
      unfold extB
      by_cases c2 : p.h.ext = true
      · refine Ev.pos c2 ?_
        rw [w64 (by omega) (by omega), if_pos c2]
        have e := join_ev (ls := [hdr p.h, [p.prof / 256 % 256, p.prof % 256, (p.ex.length : Int) / 4 / 256 % 256, (p.ex.length : Int) / 4 % 256], p.ex]) (by simp) (by simp; omega)
        rw [show [hdr p.h, [p.prof / 256 % 256, p.prof % 256, (p.ex.length : Int) / 4 / 256 % 256, (p.ex.length : Int) / 4 % 256], p.ex].flatten = hdr p.h ++ (p.prof / 256 % 256) :: (p.prof % 256) :: ((p.ex.length : Int) / 4 / 256 % 256) :: ((p.ex.length : Int) / 4 % 256) :: p.ex by simp] at e
        generalize hX : hdr p.h ++ (p.prof / 256 % 256) :: (p.prof % 256) :: ((p.ex.length : Int) / 4 / 256 % 256) :: ((p.ex.length : Int) / 4 % 256) :: p.ex = X at e ⊢
        exact Ev.bind e (j0 X (by rw [← hX]; simp only [List.length_append, List.length_cons]; omega))
      · refine Ev.neg c2 ?_
        rw [if_neg c2, List.append_nil]
        exact j0 (hdr p.h) (by omega)
  · rw [if_neg r]
    exact Ev.neg (by rw [decide_eq_false r]; decide) (Ev.now _)
def AllZ (l : List Int) : Prop := ∀ x ∈ l, x = 0
instance (l : List Int) : Decidable (AllZ l) := by unfold AllZ; infer_instance
theorem zero_loop {l : List Int} (hl : l.length ≤ 1000000) : ∀ (d i : Nat), i + d = l.length → Ev (fun k => pad_Zero.l0 k l (l.length : Int) (i : Int)) (decide (AllZ (l.drop i))) := by
  intro d
  induction d with
  | zero =>
    intro i hi
    rw [List.drop_of_length_le (by omega), decide_eq_true (show AllZ [] from fun x hx => by simp at hx)]
    exact Ev.step (fun k => by rw [pad_Zero.l0]) (Ev.neg (by omega) (Ev.now _))
  | succ d ih =>
    intro i hi
    have hd : l.drop i = rd l (i : Int) :: l.drop (i + 1) := by rw [List.drop_eq_getElem_cons (show i < l.length by omega), rd_eq (by omega) (by omega)]; rfl
    rw [hd]
    refine Ev.step (fun k => by rw [pad_Zero.l0]) (Ev.pos (by omega) (Ev.pos (by omega) (Ev.pos (by omega) ?_)))
    rw [w64 (by omega) (by omega)]
    by_cases c : rd l (i : Int) = 0
    · have := ih (i + 1) (by omega)
      refine Ev.pos c ?_
      rw [show decide (AllZ (rd l (i : Int) :: l.drop (i + 1))) = decide (AllZ (l.drop (i + 1))) by rw [decide_eq_decide]; unfold AllZ; simp [c]]
      exact this
    · rw [decide_eq_false (show ¬ AllZ (rd l (i : Int) :: l.drop (i + 1)) from fun h => c (h _ List.mem_cons_self))]
      exact Ev.neg c (Ev.now _)
theorem zeros_iff {t : List Int} {n : Int} (ht : 1 ≤ t.length) (hlast : rd t ((t.length : Int) - 1) = n) : AllZ (t.take (t.length - 1)) ↔ t = List.replicate (t.length - 1) 0 ++ [n] := by
  have e : t = t.take (t.length - 1) ++ [n] := by
    conv => lhs; rw [← List.take_append_drop (t.length - 1) t]
    rw [List.drop_eq_getElem_cons (by omega), List.drop_of_length_le (by omega)]
    congr 2
    rw [← hlast, rd_eq (by omega) (by omega)]
    congr 1
    omega
  constructor
  · intro h
    have hr : t.take (t.length - 1) = List.replicate (t.length - 1) 0 := List.eq_replicate_iff.2 ⟨by rw [List.length_take]; omega, h⟩
    conv => lhs; rw [e, hr]
  · intro h x hx
    rw [h, List.take_left' (by simp)] at hx
    exact (List.mem_replicate.1 hx).2
theorem canon_ev {l : List Int} (hb : Byt l) : Ev (fun k => packet_Canon.f k l) (decide ((openM l).2.2 = 0 ∧ writeM (openM l).1 = l)) := by
  simp only [packet_Canon.f]
  refine Ev.bind (open_ev hb) ?_
  by_cases c : (openM l).2.2 = 0
  · obtain ⟨ok, tr, e, hl⟩ := open_of hb c
    generalize openM l = o at c ok tr e
    dsimp only [oflat]
    refine Ev.pos c ?_
    have hc := canon_iff ok tr
    rw [← e] at hc
    by_cases c2 : o.1.h.pad = true
    · have hp := ok.padt c2
      have htl := tr.len
      have hlast := tr.last c2
      refine Ev.pos c2 ?_
      have hz := zeros_iff (t := o.2.1) (n := o.1.padn) (by omega) hlast
      have e3 : decide (o.2.2 = 0 ∧ writeM o.1 = l) = decide (AllZ (o.2.1.take (o.2.1.length - 1))) := by
        rw [decide_eq_decide, hz, hc]
        exact ⟨fun h => h.2 c2, fun h => ⟨c, fun _ => h⟩⟩
      rw [e3]
      have hlo : o.2.1.length ≤ 255 := by omega
      have tm : trailM o.2.1 = o.1.padn := by
        have := trail_at ok tr [] c2
        rwa [List.nil_append] at this
      have cl : Ev (fun k => pad_Clean.f k o.2.1) (decide (AllZ (o.2.1.take (o.2.1.length - 1)))) := by
        simp only [pad_Clean.f]
        rw [trail_eq tr.byt (by omega), tm, if_neg (by omega)]
        simp only [ob]
        rw [w64 (by omega) (by omega), w64 (by omega) (by omega)]
        refine Ev.pos trivial (Ev.pos (by omega) (Ev.pos (by omega) (Ev.pos (by omega) ?_)))
        rw [show ((o.2.1.length : Int) - o.1.padn).toNat = 0 by omega, List.drop_zero, show ((o.2.1.length : Int) - 1).toNat = o.2.1.length - 1 by omega]
        have z := zero_loop (l := o.2.1.take (o.2.1.length - 1)) (by rw [List.length_take]; omega) (o.2.1.take (o.2.1.length - 1)).length 0 (by omega)
        rw [List.drop_zero] at z
        refine Ev.bind (Ev.congr (fun k => by rw [pad_Zero.f]; rfl) z) (Ev.now _)
      exact Ev.bind cl (Ev.now _)
    · rw [decide_eq_true ⟨c, hc.2 (fun h => absurd h c2)⟩]
      exact Ev.neg c2 (Ev.now _)
  · generalize openM l = o at c
    rw [decide_eq_false (fun h => c h.1)]
    dsimp only [oflat]
    exact Ev.neg c (Ev.now _)
theorem numbers_refl (l : List Int) (hl : l.length ≤ 140737488351232) : Ev (fun k => crossbarref05_Numbers.f k l l) true := by
  have lp : ∀ (d i : Nat), i + d = l.length → Ev (fun k => crossbarref05_Numbers.l0 k l l (i : Int)) true := by
    intro d
    induction d with
    | zero => intro i hi; exact Ev.step (fun k => by rw [crossbarref05_Numbers.l0]) (Ev.neg (by omega) (Ev.now _))
    | succ d ih =>
      intro i hi
      refine Ev.step (fun k => by rw [crossbarref05_Numbers.l0]) (Ev.pos (by omega) (Ev.pos (by omega) (Ev.pos (by omega) (Ev.pos rfl ?_))))
      rw [w64 (by omega) (by omega)]
      exact ih (i + 1) (by omega)
  exact Ev.congr (fun k => by rw [crossbarref05_Numbers.f, if_pos rfl]; rfl) (lp l.length 0 (by omega))
theorem same_refl (p : Pk) (hl : p.h.csrc.length ≤ 140737488351232) : Ev (fun k => crossbarref06_Same.f k p.h.pad p.h.ext p.h.mark p.h.typ p.h.seq p.h.tm p.h.ssrc p.h.csrc p.prof p.ex p.pl p.padn p.h.pad p.h.ext p.h.mark p.h.typ p.h.seq p.h.tm p.h.ssrc p.h.csrc p.prof p.ex p.pl p.padn) true := by
  refine Ev.congr (fun k => by rw [crossbarref06_Same.f]) ?_
  have e : Ev (fun k => crossbarref05_Same.f k p.h.pad p.h.ext p.h.mark p.h.typ p.h.seq p.h.tm p.h.ssrc p.h.csrc p.h.pad p.h.ext p.h.mark p.h.typ p.h.seq p.h.tm p.h.ssrc p.h.csrc) true := by
    refine Ev.congr (fun k => by rw [crossbarref05_Same.f]) ?_
    refine Ev.pos (by simp) (Ev.pos (by simp) (Ev.pos (by simp) (Ev.pos rfl (Ev.pos rfl (Ev.pos rfl (Ev.pos rfl ?_))))))
    exact Ev.bind (numbers_refl _ hl) (Ev.now _)
  refine Ev.bind e (Ev.pos rfl (Ev.pos rfl (Ev.pos rfl (Ev.pos rfl (Ev.eq fun k => ?_)))))
  simp
theorem byte_inj {x y : Int} (hx : 0 ≤ x ∧ x ≤ 255) (hy : 0 ≤ y ∧ y ≤ 255) (h : UInt8.ofNat x.toNat = UInt8.ofNat y.toNat) : x = y := by
  have := congrArg UInt8.toNat h
  simp only [UInt8.toNat_ofNat'] at this
  omega
theorem map_inj {g : Int → UInt8} : ∀ {a b : List Int}, (∀ x ∈ a, ∀ y ∈ b, g x = g y → x = y) → a.map g = b.map g → a = b
  | [], [], _, _ => rfl
  | [], y :: b, _, h => by simp at h
  | x :: a, [], _, h => by simp at h
  | x :: a, y :: b, hi, h => by
    simp only [List.map_cons, List.cons.injEq] at h
    rw [hi x (by simp) y (by simp) h.1, map_inj (fun u hu v hv => hi u (by simp [hu]) v (by simp [hv])) h.2]
theorem str_inj {a b : List Int} (ha : Byt a) (hb : Byt b) (h : (strOfNums a).toList = (strOfNums b).toList) : a = b := by
  rw [Go.Lib.strOfNums_toList, Go.Lib.strOfNums_toList] at h
  exact map_inj (fun x hx y hy he => byte_inj (ha x hx) (hb y hy) he) h
theorem hdr_byt {h : Hd} (ok : HOk h) : Byt (hdr h) := by
  have n := ok.n
  have ty := ok.typ
  have p := bi_or h.pad 32
  have x := bi_or h.ext 16
  have m := bi_or h.mark 128
  have c : Byt (h.csrc.flatMap w4) := fun v hv => by
    obtain ⟨u, _, hu⟩ := List.mem_flatMap.1 hv
    exact w4_byt u v hu
  have r := (w4_byt h.tm).append ((w4_byt h.ssrc).append c)
  intro v hv
  unfold hdr hb0 hb1 at hv
  simp only [List.mem_cons] at hv
  rcases hv with rfl | rfl | rfl | rfl | hv
  · omega
  · omega
  · omega
  · omega
  · exact r v hv
theorem fore_byt {p : Pk} (ok : POk p) : Byt (fore p) := by
  refine (hdr_byt ok.h).append (Byt.append ?_ ok.pl)
  unfold extB
  split
  · intro v hv
    simp only [List.mem_cons] at hv
    rcases hv with rfl | rfl | rfl | rfl | hv
    · omega
    · omega
    · omega
    · omega
    · exact ok.ex v hv
  · intro v hv; simp at hv
theorem write_byt {p : Pk} (ok : POk p) : Byt (writeM p) := (fore_byt ok).append (fill_tr ok).byt
theorem write_len {p : Pk} (ok : POk p) : ((writeM p).length : Int) = sumM p := by
  have := fore_len p
  have := (fill_tr ok).len
  unfold writeM
  rw [List.length_append]
  omega
theorem open_zero (l : List Int) (h : (openM l).2.2 ≠ 0) : (openM l).1 = .zero := by
  have key : ∀ (left : List Int) (hd : Hd) (prof : Int) (ex : List Int), (openT left hd prof ex).2.2 ≠ 0 → (openT left hd prof ex).1 = .zero := by
    intro left hd prof ex h
    unfold openT at h ⊢
    by_cases c : hd.pad = true
    · rw [if_pos c] at h ⊢
      by_cases c2 : trailM left = 0
      · rw [if_pos c2]
      · rw [if_neg c2] at h; exact absurd rfl h
    · rw [if_neg c] at h; exact absurd rfl h
  unfold openM at h ⊢
  by_cases c : 65535 < l.length
  · rw [if_pos c]
  · rw [if_neg c] at h ⊢
    by_cases c1 : (headM l).2.2 ≠ 0
    · rw [if_pos c1]
    · rw [if_neg c1] at h ⊢
      by_cases c2 : (headM l).1.ext = true
      · rw [if_pos c2] at h ⊢
        unfold openE at h ⊢
        by_cases c3 : (l.drop (headM l).2.1.toNat).length < 4
        · rw [if_pos c3]
        · rw [if_neg c3] at h ⊢
          by_cases c4 : ((l.drop (headM l).2.1.toNat).length : Int) - 4 < 4 * (rd (l.drop (headM l).2.1.toNat) 2 * 256 + rd (l.drop (headM l).2.1.toNat) 3)
          · rw [if_pos c4]
          · rw [if_neg c4] at h ⊢
            exact key _ _ _ _ h
      · rw [if_neg c2] at h ⊢
        exact key _ _ _ _ h
end Go.Proofs.Ytcbdgknfkoodoaa.S
namespace Go.Proofs.Ytcbdgknfkoodoaa.S
open Go.RowKit Go.Proofs.YtcbdgknfkoodoaaW.PrintWords Go.Proofs.Ytcbdgknfkoodoaa.F
set_option linter.unusedVariables false
set_option linter.unusedSimpArgs false
theorem rsize_eq {p : Pk} (f : FitsP p) (hx : p.ex.length ≤ 300000) (hl : p.pl.length ≤ 70000) : crossbarref06_Size.f p.h.pad p.h.ext p.h.mark p.h.typ p.h.seq p.h.tm p.h.ssrc p.h.csrc p.prof p.ex p.pl p.padn = some (sumM p) := by
  have hn := f.1.2
  unfold crossbarref06_Size.f sumM
  rw [w64 (n := 4 * _) (by omega) (by omega), w64 (n := 12 + _) (by omega) (by omega), w64 (n := 12 + 4 * (p.h.csrc.length : Int) + (p.pl.length : Int)) (by omega) (by omega), w64 (n := 12 + 4 * (p.h.csrc.length : Int) + (p.pl.length : Int) + 4) (by omega) (by omega), w64 (n := 12 + 4 * (p.h.csrc.length : Int) + (p.pl.length : Int) + 4 + (p.ex.length : Int)) (by omega) (by omega)]
  by_cases c : p.h.pad = true
  · have hp := f.2.2.2.1 c
    rw [w64 (n := 12 + 4 * (p.h.csrc.length : Int) + (p.pl.length : Int) + 4 + (p.ex.length : Int) + p.padn) (by omega) (by omega), w64 (n := 12 + 4 * (p.h.csrc.length : Int) + (p.pl.length : Int) + p.padn) (by omega) (by omega)]
    by_cases c2 : p.h.ext = true
    · rw [if_pos c2, if_pos c, if_pos c2]; congr 1; omega
    · rw [if_neg c2, if_pos c, if_neg c2]; congr 1; omega
  · have hp := f.2.2.2.2 (by simpa using c)
    by_cases c2 : p.h.ext = true
    · rw [if_pos c2, if_neg c, if_pos c2]; congr 1; omega
    · rw [if_neg c2, if_neg c, if_neg c2]; congr 1; omega
theorem sumM_pl {p : Pk} (f : FitsP p) : (p.pl.length : Int) ≤ sumM p := by
  have hp : 0 ≤ p.padn := by
    by_cases c : p.h.pad = true
    · have := f.2.2.2.1 c; omega
    · have := f.2.2.2.2 (by simpa using c); omega
  unfold sumM
  split <;> omega
theorem rhright_eq (h : Hd) : crossbarref05_Right.f h.pad h.ext h.mark h.typ h.seq h.tm h.ssrc h.csrc = some (decide ((0 ≤ h.typ ∧ h.typ ≤ 127) ∧ h.csrc.length ≤ 15)) := by
  unfold crossbarref05_Right.f
  by_cases c1 : 0 ≤ h.typ
  · rw [if_pos (show h.typ ≥ 0 from c1)]
    by_cases c2 : h.typ < 128
    · rw [if_pos c2]
      congr 1
      rw [decide_eq_decide]
      omega
    · rw [if_neg c2, decide_eq_false (fun h => c2 (by omega))]
  · rw [if_neg (show ¬ (h.typ ≥ 0) from c1), decide_eq_false (fun h => c1 h.1.1)]
theorem rright_ev (p : Pk) (hx : p.ex.length ≤ 300000) (hl : p.pl.length ≤ 70000) : Ev (fun k => crossbarref06_Right.f k p.h.pad p.h.ext p.h.mark p.h.typ p.h.seq p.h.tm p.h.ssrc p.h.csrc p.prof p.ex p.pl p.padn) (decide (RightP p)) := by
  have j0t : Ev (fun k => crossbarref06_Right.j0 k true p.h.pad p.h.ext p.h.mark p.h.typ p.h.seq p.h.tm p.h.ssrc p.h.csrc p.prof p.ex p.pl p.padn) false := Ev.step (fun k => by rw [crossbarref06_Right.j0]) (Ev.pos rfl (Ev.now _))
  have j1t : Ev (fun k => crossbarref06_Right.j1 k true p.h.pad p.h.ext p.h.mark p.h.typ p.h.seq p.h.tm p.h.ssrc p.h.csrc p.prof p.ex p.pl p.padn) false := Ev.step (fun k => by rw [crossbarref06_Right.j1]) (Ev.pos rfl (Ev.now _))
  have fin : ∀ {g : Nat → Option Bool} {b : Bool}, Ev g b → b = decide (RightP p) → Ev g (decide (RightP p)) := fun e h => h ▸ e
  have no : ∀ {g : Nat → Option Bool}, ¬ RightP p → Ev g false → Ev g (decide (RightP p)) := fun h e => fin e (decide_eq_false h).symm
  simp only [crossbarref06_Right.f]
  rw [rhright_eq]
  simp only [ob]
  by_cases c1 : (0 ≤ p.h.typ ∧ p.h.typ ≤ 127) ∧ p.h.csrc.length ≤ 15
  · refine Ev.pos (decide_eq_true c1) ?_
    by_cases c0 : (p.pl.length : Int) > 65535
    · exact Ev.pos c0 (no (fun h => by have := sumM_pl h.1; have := h.2; omega) j0t)
    · refine Ev.neg c0 ?_
      by_cases c2 : (p.ex.length : Int) > 262140
      · exact Ev.pos c2 (no (fun h => by have := h.1.2.1; omega) j0t)
      · refine Ev.neg c2 ?_
        by_cases c3 : p.ex.length % 4 = 0
        · rw [show ((p.ex.length : Int) % 4 != 0) = false by simp; omega]
          have j1f : (p.h.ext = false → p.prof = 0 ∧ p.ex.length = 0) → Ev (fun k => crossbarref06_Right.j1 k false p.h.pad p.h.ext p.h.mark p.h.typ p.h.seq p.h.tm p.h.ssrc p.h.csrc p.prof p.ex p.pl p.padn) (decide (RightP p)) := by
            intro hz
            refine Ev.step (fun k => by rw [crossbarref06_Right.j1]) (Ev.neg (by decide) ?_)
            have sz : FitsP p → Ev (fun k => (crossbarref06_Size.f p.h.pad p.h.ext p.h.mark p.h.typ p.h.seq p.h.tm p.h.ssrc p.h.csrc p.prof p.ex p.pl p.padn).bind fun t => some (decide (t ≤ 65535))) (decide (RightP p)) := by
              intro f
              refine Ev.eq fun k => ?_
              rw [rsize_eq f hx hl]
              simp only [ob]
              congr 1
              rw [decide_eq_decide]
              exact ⟨fun h => ⟨f, h⟩, fun h => h.2⟩
            by_cases c4 : p.h.pad = true
            · refine Ev.pos c4 ?_
              by_cases c5 : p.padn < 1
              · exact Ev.pos c5 (no (fun h => by have := h.1.2.2.2.1 c4; omega) (Ev.now _))
              · refine Ev.neg c5 ?_
                by_cases c6 : p.padn > 255
                · exact Ev.pos c6 (no (fun h => by have := h.1.2.2.2.1 c4; omega) (Ev.now _))
                · exact Ev.neg c6 (sz ⟨c1, ⟨c3, by omega⟩, hz, fun _ => ⟨by omega, by omega⟩, fun h => absurd c4 (by rw [h]; decide)⟩)
            · refine Ev.neg c4 ?_
              have c4' : p.h.pad = false := by simpa using c4
              by_cases c5 : p.padn = 0
              · exact Ev.pos c5 (sz ⟨c1, ⟨c3, by omega⟩, hz, fun h => absurd h c4, fun _ => c5⟩)
              · exact Ev.neg c5 (no (fun h => c5 (h.1.2.2.2.2 c4')) (Ev.now _))
          refine Ev.step (fun k => by rw [crossbarref06_Right.j0]) (Ev.neg (by decide) ?_)
          by_cases c4 : p.h.ext = true
          · exact Ev.pos c4 (j1f (fun h => absurd c4 (by rw [h]; decide)))
          · refine Ev.neg c4 ?_
            have c4' : p.h.ext = false := by simpa using c4
            by_cases c5 : p.prof = 0
            · refine Ev.pos c5 ?_
              by_cases c6 : (p.ex.length : Int) > 0
              · rw [decide_eq_true c6]
                exact no (fun h => by have := (h.1.2.2.1 c4').2; omega) j1t
              · rw [decide_eq_false c6]
                exact j1f (fun _ => ⟨c5, by omega⟩)
            · exact Ev.neg c5 (no (fun h => c5 (h.1.2.2.1 c4').1) j1t)
        · rw [show ((p.ex.length : Int) % 4 != 0) = true by simp; omega]
          exact no (fun h => c3 h.1.2.1.1) j0t
  · exact Ev.neg (by rw [decide_eq_false c1]; decide) (no (fun h => c1 h.1.1) j0t)
theorem put_step {v n i : Int} {out : List Int} {r : List Int × Int} (j : Nat) (h0 : 0 ≤ v) (h1 : v < 4294967296) (hi : 0 ≤ i) (hn : n ≤ 8) (hj : n - 1 - i = j) (ho : j < out.length)
    (e : Ev (fun k => crossbarref01_Put.l0 k (v / 256) n (out.set j (v % 256)) (i + 1)) r) : Ev (fun k => crossbarref01_Put.l0 k v n out i) r := by
  refine Ev.step (fun k => by rw [crossbarref01_Put.l0]) (Ev.pos (by omega) ?_)
  rw [w64 (n := n - 1) (by omega) (by omega), w64 (n := n - 1 - i) (by omega) (by omega), hj, Int.toNat_natCast, w64 (n := i + 1) (by omega) (by omega)]
  refine Ev.pos (by omega) (Ev.pos (by omega) ?_)
  have t1 : Int.tdiv v 256 = v / 256 := Int.tdiv_eq_ediv_of_nonneg h0
  have t2 : Int.tmod v 256 = v % 256 := Int.tmod_eq_emod_of_nonneg h0
  rw [t1, t2, u64w (by omega) (by omega), show v % 256 % 256 = v % 256 by omega]
  exact e
theorem put_end {v n i : Int} (out : List Int) (hv : v = 0) (hi : ¬ i < n) : Ev (fun k => crossbarref01_Put.l0 k v n out i) (out, 0) :=
  Ev.step (fun k => by rw [crossbarref01_Put.l0]) (Ev.neg hi (Ev.neg (by omega) (Ev.now _)))
theorem must2 {v : Int} (h0 : 0 ≤ v) (h1 : v ≤ 65535) : Ev (fun k => crossbarref01_Must.f k v 2) [v / 256 % 256, v % 256] := by
  have e : Ev (fun k => crossbarref01_Put.f k v 2) ([v / 256 % 256, v % 256], 0) := by
    refine Ev.congr (fun k => by rw [crossbarref01_Put.f, if_neg (by decide), decide_eq_false (by decide)]) ?_
    refine Ev.step (fun k => by rw [crossbarref01_Put.j0]) (Ev.neg (by decide) (Ev.pos (by decide) (Ev.pos (by decide) ?_)))
    refine put_step 1 h0 (by omega) (by decide) (by decide) (by decide) (by decide) (put_step 0 (by omega) (by omega) (by decide) (by decide) (by decide) (by simp) ?_)
    exact put_end _ (by omega) (by decide)
  exact Ev.congr (fun k => by rw [crossbarref01_Must.f]) (Ev.bind e (Ev.now _))
theorem must4 {v : Int} (h0 : 0 ≤ v) (h1 : v < 4294967296) : Ev (fun k => crossbarref01_Must.f k v 4) (w4 v) := by
  have e : Ev (fun k => crossbarref01_Put.f k v 4) ([v / 256 / 256 / 256 % 256, v / 256 / 256 % 256, v / 256 % 256, v % 256], 0) := by
    refine Ev.congr (fun k => by rw [crossbarref01_Put.f, if_neg (by decide), decide_eq_false (by decide)]) ?_
    refine Ev.step (fun k => by rw [crossbarref01_Put.j0]) (Ev.neg (by decide) (Ev.pos (by decide) (Ev.pos (by decide) ?_)))
    refine put_step 3 h0 (by omega) (by decide) (by decide) (by decide) (by decide) (put_step 2 (by omega) (by omega) (by decide) (by decide) (by decide) (by simp) (put_step 1 (by omega) (by omega) (by decide) (by decide) (by decide) (by simp) (put_step 0 (by omega) (by omega) (by decide) (by decide) (by decide) (by simp) ?_)))
    exact put_end _ (by omega) (by decide)
  refine Ev.congr (fun k => by rw [crossbarref01_Must.f]) (Ev.bind e ?_)
  have : w4 v = [v / 256 / 256 / 256 % 256, v / 256 / 256 % 256, v / 256 % 256, v % 256] := by
    simp only [w4, List.cons.injEq, and_true]
    omega
  rw [this]
  exact Ev.now _
theorem radd_ev {l : List Int} (hl : l.length ≤ 1000000) {n : Nat} (h0 : 1 ≤ n) (h1 : n ≤ 255) : Ev (fun k => crossbarref03_Add.f k l (n : Int)) (l ++ (List.replicate (n - 1) 0 ++ [(n : Int)])) := by
  have lp : ∀ d i : Nat, i + d = n → 1 ≤ i → Ev (fun k => crossbarref03_Add.l0 k (n : Int) (l ++ List.replicate (i - 1) 0) (i : Int)) (l ++ (List.replicate (n - 1) 0 ++ [(n : Int)])) := by
    intro d
    induction d with
    | zero =>
      intro i hi h
      obtain rfl : i = n := by omega
      refine Ev.step (fun k => by rw [crossbarref03_Add.l0]) (Ev.neg (by omega) (Ev.pos (by rw [List.length_append, List.length_replicate]; omega) ?_))
      rw [show (i : Int) % 256 = i by omega, List.append_assoc]
      exact Ev.now _
    | succ d ih =>
      intro i hi h
      refine Ev.step (fun k => by rw [crossbarref03_Add.l0]) (Ev.pos (by omega) (Ev.pos (by rw [List.length_append, List.length_replicate]; omega) ?_))
      have := ih (i + 1) (by omega) (by omega)
      rw [show i + 1 - 1 = (i - 1) + 1 by omega, List.replicate_succ', ← List.append_assoc] at this
      rw [w64 (by omega) (by omega)]
      exact this
  refine Ev.congr (f := fun k => crossbarref03_Add.l0 k (n : Int) (l ++ List.replicate (1 - 1) 0) ((1 : Nat) : Int)) (fun k => ?_) (lp (n - 1) 1 (by omega) (by omega))
  rw [crossbarref03_Add.f]
  simp only [ob]
  rw [if_pos (by simp only [List.length_nil]; omega), List.nil_append, show List.replicate (1 - 1) (0 : Int) = [] from rfl, List.append_nil]
  rfl
theorem rhwrite_loop {h : Hd} (ok : HOk h) (pre : List Int) (hp : pre.length ≤ 100) : ∀ (d i : Nat), i + d = h.csrc.length → Ev (fun k => crossbarref05_Write.l0 k (pre ++ (h.csrc.take i).flatMap w4) (i : Int) h.pad h.ext h.mark h.typ h.seq h.tm h.ssrc h.csrc) (pre ++ h.csrc.flatMap w4) := by
  have hn := ok.n
  intro d
  induction d with
  | zero =>
    intro i hi
    rw [List.take_of_length_le (by omega)]
    exact Ev.step (fun k => by rw [crossbarref05_Write.l0]) (Ev.neg (by omega) (Ev.now _))
  | succ d ih =>
    intro i hi
    have hl : ((h.csrc.take i).flatMap w4).length = 4 * i := by rw [flatMap_w4_len, List.length_take]; omega
    have hr : rd h.csrc (i : Int) = h.csrc[i]'(by omega) := by rw [rd_eq (by omega) (by omega)]; rfl
    have hv := ok.csrc (rd h.csrc (i : Int)) (by rw [hr]; exact List.getElem_mem _)
    refine Ev.step (fun k => by rw [crossbarref05_Write.l0]) (Ev.pos (by omega) (Ev.pos (by omega) ?_))
    rw [u64w hv.1 (by omega), w64 (by omega) (by omega)]
    refine Ev.bind (must4 hv.1 hv.2) (Ev.pos (by rw [List.length_append, w4_len]; omega) ?_)
    have := ih (i + 1) (by omega)
    rw [List.take_succ_eq_append_getElem (show i < h.csrc.length by omega), List.flatMap_append, List.flatMap_singleton, ← hr, ← List.append_assoc] at this
    exact this
theorem rhwrite_ev {h : Hd} (ok : HOk h) : Ev (fun k => crossbarref05_Write.f k h.pad h.ext h.mark h.typ h.seq h.tm h.ssrc h.csrc) (hdr h) := by
  have n := ok.n
  have ty := ok.typ
  have sq := ok.seq
  have t1 := ok.tm
  have t2 := ok.ssrc
  have pb := bi_or h.pad 32
  have xb := bi_or h.ext 16
  have mb := bi_or h.mark 128
  have q0 : hb0 h % 256 = hb0 h := by unfold hb0; omega
  have q1 : hb1 h % 256 = hb1 h := by unfold hb1; omega
  have j2 : Ev (fun k => crossbarref05_Write.j2 k (hb0 h) (hb1 h) h.pad h.ext h.mark h.typ h.seq h.tm h.ssrc h.csrc) (hdr h) := by
    refine Ev.step (fun k => by rw [crossbarref05_Write.j2]) ?_
    simp only [ob]
    rw [q0, q1, u64w sq.1 (by omega), u64w t1.1 (by omega), u64w t2.1 (by omega)]
    refine Ev.bind (must2 sq.1 sq.2) (Ev.pos (by simp only [List.length_cons, List.length_nil]; omega) (Ev.bind (must4 t1.1 t1.2) (Ev.pos (by simp only [List.length_append, List.length_cons, List.length_nil, w4_len]; omega) (Ev.bind (must4 t2.1 t2.2) (Ev.pos (by simp only [List.length_append, List.length_cons, List.length_nil, w4_len]; omega) ?_)))))
    have := rhwrite_loop ok ((([hb0 h, hb1 h] ++ [h.seq / 256 % 256, h.seq % 256]) ++ w4 h.tm) ++ w4 h.ssrc) (by simp [w4_len]) h.csrc.length 0 (by omega)
    rw [List.take_zero, List.flatMap_nil, List.append_nil] at this
    have e : hdr h = ((([hb0 h, hb1 h] ++ [h.seq / 256 % 256, h.seq % 256]) ++ w4 h.tm) ++ w4 h.ssrc) ++ h.csrc.flatMap w4 := by simp [hdr]
    rw [e]
    exact this
  have j1 : Ev (fun k => crossbarref05_Write.j1 k (hb0 h) h.pad h.ext h.mark h.typ h.seq h.tm h.ssrc h.csrc) (hdr h) := by
    refine Ev.step (fun k => by rw [crossbarref05_Write.j1]) ?_
    by_cases c : h.mark = true
    · refine Ev.pos c ?_
      rw [w64 (by omega) (by omega), show h.typ + 128 = hb1 h by simp [hb1, bi, c]]
      exact j2
    · refine Ev.neg c ?_
      have e : h.typ = hb1 h := by simp [hb1, bi, c]
      conv => arg 1; intro k; arg 3; rw [e]
      exact j2
  have j0 : Ev (fun k => crossbarref05_Write.j0 k (128 + (h.csrc.length : Int) + bi h.pad 32) h.pad h.ext h.mark h.typ h.seq h.tm h.ssrc h.csrc) (hdr h) := by
    refine Ev.step (fun k => by rw [crossbarref05_Write.j0]) ?_
    by_cases c : h.ext = true
    · refine Ev.pos c ?_
      rw [w64 (by omega) (by omega), show 128 + (h.csrc.length : Int) + bi h.pad 32 + 16 = hb0 h by simp [hb0, bi, c]]
      exact j1
    · refine Ev.neg c ?_
      rw [show 128 + (h.csrc.length : Int) + bi h.pad 32 = hb0 h by simp [hb0, bi, c]]
      exact j1
  simp only [crossbarref05_Write.f]
  by_cases c : h.pad = true
  · refine Ev.pos c ?_
    rw [w64 (n := 128 + (h.csrc.length : Int)) (by omega) (by omega), w64 (by omega) (by omega), show 128 + (h.csrc.length : Int) + 32 = 128 + (h.csrc.length : Int) + bi h.pad 32 by simp [bi, c]]
    exact j0
  · refine Ev.neg c ?_
    rw [w64 (n := 128 + (h.csrc.length : Int)) (by omega) (by omega), show 128 + (h.csrc.length : Int) = 128 + (h.csrc.length : Int) + bi h.pad 32 by simp [bi, c]]
    exact j0
theorem rwrite_ev {p : Pk} (ok : POk p) (hx : p.ex.length ≤ 300000) (hl : p.pl.length ≤ 70000) : Ev (fun k => crossbarref06_Write.f k p.h.pad p.h.ext p.h.mark p.h.typ p.h.seq p.h.tm p.h.ssrc p.h.csrc p.prof p.ex p.pl p.padn) (writeM p) := by
  have hhl := hdr_len p.h
  have hn := ok.h.n
  have pr := ok.prof
  have last : ∀ y : List Int, y.length ≤ 1000000 → Ev (fun k => if p.h.pad = true then (crossbarref03_Add.f k y p.padn).bind fun t => some t else some y) (y ++ fill p) := by
    intro y hy
    unfold fill
    by_cases c : p.h.pad = true
    · have hp := ok.padt c
      refine Ev.pos c ?_
      rw [if_pos c]
      obtain ⟨n, hn⟩ : ∃ n : Nat, p.padn = n := ⟨p.padn.toNat, by omega⟩
      rw [hn, Int.toNat_natCast]
      exact Ev.bind (radd_ev hy (by omega) (by omega)) (Ev.now _)
    · refine Ev.neg c ?_
      rw [if_neg c, List.append_nil]
      exact Ev.now _
  have e2 : writeM p = ((hdr p.h ++ extB p) ++ p.pl) ++ fill p := by simp only [writeM, fore, List.append_assoc]
  simp only [crossbarref06_Write.f]
  refine Ev.bind (rhwrite_ev ok.h) ?_
  rw [e2]
  unfold extB
  by_cases c : p.h.ext = true
  · refine Ev.pos c ?_
    have ex4 := ok.exn
    rw [u64w pr.1 (by omega), w64 (by omega) (by omega), u64w (n := (p.ex.length : Int) / 4) (by omega) (by omega)]
    refine Ev.bind (must2 pr.1 pr.2) (Ev.pos (by simp only [List.length_cons, List.length_nil]; omega) ?_)
    simp only [ob]
    refine Ev.bind (must2 (by omega) (by omega)) (Ev.pos (by simp only [List.length_append, List.length_cons, List.length_nil]; omega) ?_)
    refine Ev.pos (by simp only [List.length_append, List.length_cons, List.length_nil]; omega) (Ev.pos (by simp only [List.length_append, List.length_cons, List.length_nil]; omega) ?_)
    rw [if_pos c]
    have e : hdr p.h ++ ((p.prof / 256 % 256) :: (p.prof % 256) :: ((p.ex.length : Int) / 4 / 256 % 256) :: ((p.ex.length : Int) / 4 % 256) :: p.ex) = ((hdr p.h ++ [p.prof / 256 % 256, p.prof % 256]) ++ [(p.ex.length : Int) / 4 / 256 % 256, (p.ex.length : Int) / 4 % 256]) ++ p.ex := by simp
    rw [e]
    exact last _ (by simp only [List.length_append, List.length_cons, List.length_nil]; omega)
  · refine Ev.neg c (Ev.pos (by omega) ?_)
    simp only [ob]
    rw [if_neg c, List.append_nil]
    exact last (hdr p.h ++ p.pl) (by rw [List.length_append]; omega)
theorem rcanon_ev {l : List Int} (hb : Byt l) : Ev (fun k => crossbarref06_Canon.f k l) (decide ((openM l).2.2 = 0 ∧ writeM (openM l).1 = l)) := by
  simp only [crossbarref06_Canon.f]
  refine Ev.bind (rread_ev hb) ?_
  by_cases c : (openM l).2.2 = 0
  · obtain ⟨ok, tr, e, hl⟩ := open_of hb c
    generalize openM l = o at c ok tr e
    have hx := ok.exn
    have hx4 := ok.ex4
    have hpl : o.1.pl.length ≤ l.length := by rw [e]; unfold fore; simp only [List.length_append]; omega
    dsimp only [pflat]
    refine Ev.pos c (Ev.bind (rwrite_ev ok (by omega) (by omega)) (Ev.eq fun k => ?_))
    congr 1
    by_cases z : writeM o.1 = l
    · rw [decide_eq_true ⟨c, z⟩, z]; simp
    · rw [decide_eq_false (fun h => z h.2)]
      have : ¬ (strOfNums (writeM o.1)).toList = (strOfNums l).toList := fun h => z (str_inj (write_byt ok) hb h)
      simp [this]
  · generalize openM l = o at c
    rw [decide_eq_false (fun h => c h.1)]
    dsimp only [pflat]
    exact Ev.neg c (Ev.now _)
end Go.Proofs.Ytcbdgknfkoodoaa.S
namespace Go.Proofs.Ytcbdgknfkoodoaa.Pure
open Go.RowKit Go.Proofs.Ytcbdgknfkoodoaa.F Go.Proofs.YtcbdgknfkoodoaaW.PrintWords Go.Proofs.Ytcbdgknfkoodoaa.S Go.Proofs.YtcbdgknfkoodoaaW.RowKd
set_option linter.unusedVariables false
set_option linter.unusedSimpArgs false
theorem awake06 : Ev (fun k => crossbarlaw06_awake.f k) true := Ev.of crossbarlaw06_awake.mono (k := 60) (by decide +kernel)
theorem u16_of_wf {n : Int} (h : IQ .u16 n) : 0 ≤ n ∧ n ≤ 65535 := by
  have h : (Lit.int .u16 n).wf = true := h
  simp [Lit.wf, IntKind.min, IntKind.max, IntKind.signed, IntKind.bits] at h
  omega
theorem u32_of_wf {n : Int} (h : IQ .u32 n) : 0 ≤ n ∧ n < 4294967296 := by
  have h : (Lit.int .u32 n).wf = true := h
  simp [Lit.wf, IntKind.min, IntKind.max, IntKind.signed, IntKind.bits] at h
  omega
theorem right1 {l : List Int} (hb : Byt l) (p : Pk) (i : In p) : Ev (fun k => crossbarlaw06_PacketRight.j1 k l (decide (RightP p)) p.h.pad p.h.ext p.h.mark p.h.typ p.h.seq p.h.tm p.h.ssrc p.h.csrc p.prof p.ex p.pl p.padn) true := by
  refine Ev.step (fun k => by rw [crossbarlaw06_PacketRight.j1]) (Ev.bind (read_ev hb) (Ev.bind (rread_ev hb) (Ev.bind (right_ev p i.exl i.pll) (Ev.pos (beq_self_eq_true _) (Ev.pos rfl ?_)))))
  have hc := canon_ev hb
  have hrc := rcanon_ev hb
  have hn : (openM l).1.h.csrc.length ≤ 140737488351232 := by
    by_cases c : (openM l).2.2 = 0
    · have := (open_of hb c).1.h.n; omega
    · rw [open_zero l c]; decide
  exact Ev.bind (same_refl (openM l).1 hn) (Ev.pos rfl (Ev.bind hc (Ev.bind hrc (Ev.eq fun k => congrArg some (beq_self_eq_true _)))))
theorem PacketRight : crossbarlaw06_PacketRight.PureS := by
  intro a0 a1 a2 a3 a4 a5 a6 l7 a8 l9 l10 a11 room l1 w3 w4 w5 w6 _ w7 w8 _ w9 _ w10 w11 wr _ w1
  have hb : Byt l1 := byt_of_wf w1
  refine Ev.rounds ?_
  simp only [crossbarlaw06_PacketRight.f, crossbarref06_Short.f]
  refine Ev.bind awake06 (Ev.pos rfl ?_)
  have jt : Ev (fun k => crossbarlaw06_PacketRight.j0 k room l1 true a0 a1 a2 a3 a4 a5 a6 l7 a8 l9 l10 a11) true := Ev.step (fun k => by rw [crossbarlaw06_PacketRight.j0]) (Ev.pos rfl (Ev.now _))
  by_cases c1 : (l7.length : Int) ≤ 99
  · by_cases c2 : (l9.length : Int) ≤ 300000
    · simp only [if_pos c1, if_pos c2, ob]
      by_cases c3 : (l10.length : Int) ≤ 70000
      · refine Ev.pos (decide_eq_true c3) ?_
        by_cases c4 : (l1.length : Int) > 70000
        · rw [decide_eq_true c4]; exact jt
        · rw [decide_eq_false c4]
          refine Ev.step (fun k => by rw [crossbarlaw06_PacketRight.j0]) (Ev.neg (by decide) ?_)
          let p : Pk := ⟨⟨a0, a1, a2, a3, a4, a5, a6, l7⟩, a8, l9, l10, a11⟩
          have i : In p := ⟨u16_of_wf w4, u32_of_wf w5, u32_of_wf w6, fun v hv => u32_of_wf (w7 v hv), u16_of_wf w8, byt_of_wf w9, byt_of_wf w10, by show l9.length ≤ 300000; omega, by show l10.length ≤ 70000; omega⟩
          have w := write_ev p i room
          have hrr := rright_ev p i.exl i.pll
          have hs := size_ev p i.exl i.pll
          have h1 := right1 hb p i
          refine Ev.bind hrr (Ev.bind w ?_)
          by_cases r : RightP p
          · have ok := i.ok r.1
            have hz := rsize_eq r.1 i.exl i.pll
            rw [if_pos r] at hs
            have hwl := write_len ok
            refine Ev.pos (decide_eq_true r) (Ev.bind (Ev.eq fun _ => hz) ?_)
            by_cases c5 : sumM p > room
            · refine Ev.pos c5 ?_
              rw [if_pos r, if_pos c5]
              exact Ev.pos rfl (Ev.pos rfl (Ev.bind hs (Ev.bind (Ev.eq fun _ => hz) (Ev.pos rfl h1))))
            · refine Ev.neg c5 ?_
              rw [if_pos r, if_neg c5]
              exact Ev.pos rfl (Ev.bind (rwrite_ev ok i.exl i.pll) (Ev.pos rfl (Ev.bind hs (Ev.pos hwl.symm h1))))
          · rw [if_neg r] at hs
            refine Ev.neg (by rw [decide_eq_false r]; decide) ?_
            rw [if_neg r]
            exact Ev.pos rfl (Ev.pos rfl (Ev.bind hs (Ev.pos rfl h1)))
      · exact Ev.neg (by rw [decide_eq_false c3]; decide) jt
    · simp only [if_pos c1, if_neg c2, ob]
      exact Ev.neg (by decide) jt
  · simp only [if_neg c1, ob]
    exact Ev.neg (by decide) jt
end Go.Proofs.Ytcbdgknfkoodoaa.Pure
