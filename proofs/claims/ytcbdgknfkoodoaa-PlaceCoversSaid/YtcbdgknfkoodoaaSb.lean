/- What the program's functions for headers and packets answer, in plain Lean. For bytes, of at most 2^47 - 4096. -/
import Derived.Test.YtcbdgknfkoodoaaSa
import Derived.Test.YtcbdgknfkoodoaaF2
import Derived.Test.YtcbdgknfkoodoaaF3
import Derived.Test.YtcbdgknfkoodoaaF4
import Derived.Test.YtcbdgknfkoodoaaF5
namespace Go.Proofs.Ytcbdgknfkoodoaa.S
open Go.RowKit Go.Proofs.YtcbdgknfkoodoaaW.PrintWords Go.Proofs.Ytcbdgknfkoodoaa.F
set_option linter.unusedVariables false
set_option linter.unusedSimpArgs false

theorem get_loop {y : List Int} (hb : Byt y) (h8 : y.length ≤ 8) : ∀ (d i : Nat) (v : Int), i + d = y.length → 0 ≤ v → v < ((256 ^ i : Nat) : Int) → Ev (fun k => octet_Get.l0 k v y (y.length : Int) (i : Int)) (be v (y.drop i), 0) := by
  intro d
  induction d with
  | zero =>
    intro i v hi hv hv2
    refine Ev.step (f := fun _ => some (be v (y.drop i), 0)) (fun k => ?_) (Ev.now _)
    simp only [octet_Get.l0]
    rw [if_neg (by omega), List.drop_of_length_le (by omega)]
    rfl
  | succ d ih =>
    intro i v hi hv hv2
    have hx := brd hb (i : Int)
    have hp : 256 ^ i ≤ 72057594037927936 := Nat.le_trans (Nat.pow_le_pow_right (show 0 < 256 by decide) (show i ≤ 7 by omega)) (by decide)
    have hv3 : v < 72057594037927936 := Int.lt_of_lt_of_le hv2 (Int.ofNat_le.2 hp)
    refine Ev.step (f := fun k => octet_Get.l0 k (v * 256 + rd y i) y (y.length : Int) ((i + 1 : Nat) : Int)) (fun k => ?_) ?_
    · conv => lhs; unfold octet_Get.l0
      rw [if_pos (by omega), if_pos (by omega), if_pos (by omega), or_join hv hv3 hx.1 hx.2, w64 (by omega) (by omega)]
      rfl
    · have := ih (i + 1) (v * 256 + rd y i) (by omega) (by omega) (by rw [Nat.pow_succ, Int.natCast_mul]; omega)
      have hd : y.drop i = rd y i :: y.drop (i + 1) := by
        rw [List.drop_eq_getElem_cons (show i < y.length by omega), rd_eq (by omega) (by omega)]
        rfl
      rw [hd, be_cons]
      exact this
/-- n bytes from at on. -/
def cutn (l : List Int) (at_ n : Nat) : List Int := (l.drop at_).take n
def w32 (l : List Int) (at_ : Nat) : Int := be 0 (cutn l at_ 4)
theorem w32_range {l : List Int} (hb : Byt l) (a : Nat) (h : a + 4 ≤ l.length) : 0 ≤ w32 l a ∧ w32 l a < 4294967296 := by
  have := be_range (y := cutn l a 4) ((hb.drop a).take 4) 0 (by omega)
  have hl : (cutn l a 4).length = 4 := by simp [cutn]; omega
  rw [hl] at this
  exact this
theorem get4_ev {l : List Int} (hb : Byt l) (hl : l.length ≤ 140737488351232) (a : Nat) (h : a + 4 ≤ l.length) : Ev (fun k => octet_Get.f k l (a : Int) 4) (w32 l a, 0) := by
  have hy : (l.take (a + 4)).drop a = cutn l a 4 := by rw [cutn, List.drop_take]; congr 1; omega
  have hyl : (cutn l a 4).length = 4 := by simp [cutn]; omega
  refine Ev.step (f := fun k => octet_Get.l0 k 0 (cutn l a 4) ((cutn l a 4).length : Int) ((0 : Nat) : Int)) (fun k => ?_) ?_
  · simp only [octet_Get.f]
    rw [if_neg (by omega), if_neg (by omega), show decide ((a : Int) < 0) = false from decide_eq_false (by omega)]
    simp only [octet_Get.j0]
    rw [if_neg Bool.false_ne_true]
    have hs : octet_span.f (l.length : Int) (a : Int) 4 = some 0 := by
      unfold octet_span.f
      rw [if_neg (by omega), w64 (by omega) (by omega), if_neg (by omega)]
    rw [hs]
    simp only [ob]
    rw [if_pos trivial, if_pos (by omega), w64 (by omega) (by omega), if_pos (by omega), if_pos (by omega)]
    rw [show ((a : Int) + 4).toNat = a + 4 by omega, Int.toNat_natCast, hy]
    rfl
  · have := get_loop (y := cutn l a 4) ((hb.drop a).take 4) (by omega) 4 0 0 (by omega) (by omega) (by decide)
    rw [List.drop_zero] at this
    exact this
theorem word_ev {l : List Int} (hb : Byt l) (hl : l.length ≤ 140737488351232) (a : Nat) (h : a + 4 ≤ l.length) : Ev (fun k => head_wordAt.f k l (a : Int)) (w32 l a) := by
  have hr := w32_range hb a h
  have e1 := get4_ev hb hl a h
  refine Ev.congr (f := fun k => (octet_Get.f k l (a : Int) 4).bind fun b => some (b.1 % 4294967296)) (fun k => by unfold head_wordAt.f; rfl) (Ev.bind e1 (f := fun _ b => some (b.1 % 4294967296)) ?_)
  refine Ev.eq fun k => ?_
  dsimp only
  rw [Int.emod_eq_of_lt hr.1 hr.2]

structure Hd where
  pad : Bool
  ext : Bool
  mark : Bool
  typ : Int
  seq : Int
  tm : Int
  ssrc : Int
  csrc : List Int
def Hd.zero : Hd := ⟨false, false, false, 0, 0, 0, 0, []⟩
def words (l : List Int) (a n : Nat) : List Int := (List.range n).map fun i => w32 l (a + 4 * i)
/-- The header of bytes, where it ends, and why there is none. -/
def headM (l : List Int) : Hd × Int × Int :=
  if l.length < 12 then (.zero, 0, 2) else if rd l 0 / 64 ≠ 2 then (.zero, 0, 3) else if (l.length : Int) < 12 + 4 * (rd l 0 % 16) then (.zero, 0, 2) else
  (⟨decide (rd l 0 / 32 % 2 = 1), decide (rd l 0 / 16 % 2 = 1), decide (128 ≤ rd l 1), rd l 1 % 128, rd l 2 * 256 + rd l 3, w32 l 4, w32 l 8, words l 12 (rd l 0 % 16).toNat⟩, 12 + 4 * (rd l 0 % 16), 0)
abbrev hflat (h : Hd × Int × Int) : Bool × Bool × Bool × Int × Int × Int × Int × List Int × Int × Int := (h.1.pad, h.1.ext, h.1.mark, h.1.typ, h.1.seq, h.1.tm, h.1.ssrc, h.1.csrc, h.2.1, h.2.2)
theorem head_loop {l : List Int} (hb : Byt l) (hl : l.length ≤ 140737488351232) {n : Nat} (hn : n ≤ 15) (h : 12 + 4 * n ≤ l.length) (x6 : Int) (p e m : Bool) (ty sq tm ss : Int) :
    ∀ (d i : Nat), i + d = n → Ev (fun k => head_Read.l0 k l (n : Int) x6 (i : Int) p e m ty sq tm ss (words l 12 i)) (p, e, m, ty, sq, tm, ss, words l 12 n, x6, 0) := by
  intro d
  induction d with
  | zero =>
    intro i hi
    obtain rfl : i = n := by omega
    refine Ev.step (f := fun _ => some (p, e, m, ty, sq, tm, ss, words l 12 i, x6, 0)) (fun k => ?_) (Ev.now _)
    simp only [head_Read.l0]
    rw [if_neg (by omega)]
  | succ d ih =>
    intro i hi
    refine Ev.step (f := fun k => (head_wordAt.f k l ((12 + 4 * i : Nat) : Int)).bind fun t => if (words l 12 i).length < 35184372088832 then head_Read.l0 k l (n : Int) x6 ((i + 1 : Nat) : Int) p e m ty sq tm ss (words l 12 i ++ [t]) else none) (fun k => ?_) ?_
    · conv => lhs; unfold head_Read.l0
      rw [if_pos (by omega), w64 (n := 4 * (i : Int)) (by omega) (by omega), w64 (by omega) (by omega), w64 (n := (i : Int) + 1) (by omega) (by omega)]
      rfl
    · refine Ev.bind (word_ev hb hl (12 + 4 * i) (by omega)) ?_
      refine Ev.congr (f := fun k => head_Read.l0 k l (n : Int) x6 ((i + 1 : Nat) : Int) p e m ty sq tm ss (words l 12 (i + 1))) (fun k => ?_) (ih (i + 1) (by omega))
      rw [if_pos (by simp [words]; omega)]
      congr 1
      simp [words, List.range_succ]
theorem head_ev {l : List Int} (hb : Byt l) (hl : l.length ≤ 140737488351232) : Ev (fun k => head_Read.f k l) (hflat (headM l)) := by
  have h0 := brd hb 0
  have h1 := brd hb 1
  have h2 := brd hb 2
  have h3 := brd hb 3
  by_cases c1 : l.length < 12
  · refine Ev.eq fun k => ?_
    simp only [head_Read.f, headM, if_pos c1, if_pos (show (l.length : Int) < 12 by omega)]
    rfl
  · by_cases c2 : rd l 0 / 64 = 2
    · by_cases c3 : (l.length : Int) < 12 + 4 * (rd l 0 % 16)
      · refine Ev.eq fun k => ?_
        simp only [head_Read.f, headM, if_neg c1, if_pos c3]
        rw [if_neg (by omega), if_pos (by omega), if_pos c2, and15 h0.1 h0.2, w64 (n := rd l 0 % 16) (by omega) (by omega), w64 (n := 4 * _) (by omega) (by omega), w64 (by omega) (by omega), if_pos c3, if_neg (by simpa using c2)]
        rfl
      · have hn : ((rd l 0 % 16).toNat : Int) = rd l 0 % 16 := by omega
        refine Ev.congr (f := fun k => (head_wordAt.f k l ((4 : Nat) : Int)).bind fun t => (head_wordAt.f k l ((8 : Nat) : Int)).bind fun u => head_Read.l0 k l ((rd l 0 % 16).toNat : Int) (12 + 4 * (rd l 0 % 16)) ((0 : Nat) : Int) (decide (rd l 0 / 32 % 2 = 1)) (decide (rd l 0 / 16 % 2 = 1)) (decide (128 ≤ rd l 1)) (rd l 1 % 128) (rd l 2 * 256 + rd l 3) t u (words l 12 0)) (fun k => ?_) ?_
        · simp only [head_Read.f]
          rw [if_neg (by omega), if_pos (by omega), if_pos c2, and15 h0.1 h0.2, w64 (n := rd l 0 % 16) (by omega) (by omega), w64 (n := 4 * _) (by omega) (by omega), w64 (n := 12 + _) (by omega) (by omega), if_neg c3, if_pos (by omega), if_pos (by omega), if_pos (by omega), and32 h0.1 h0.2, and16 h0.1 h0.2, and128 h1.1 h1.2, and127 h1.1 h1.2, w64 (n := rd l 1 % 128) (by omega) (by omega), or_join16 h2.1 h2.2 h3.1 h3.2, hn]
          rfl
        · refine Ev.bind (word_ev hb hl 4 (by omega)) (Ev.bind (word_ev hb hl 8 (by omega)) ?_)
          have := head_loop hb hl (n := (rd l 0 % 16).toNat) (by omega) (by omega) (12 + 4 * (rd l 0 % 16)) (decide (rd l 0 / 32 % 2 = 1)) (decide (rd l 0 / 16 % 2 = 1)) (decide (128 ≤ rd l 1)) (rd l 1 % 128) (rd l 2 * 256 + rd l 3) (w32 l 4) (w32 l 8) (rd l 0 % 16).toNat 0 (by omega)
          rw [show hflat (headM l) = _ from by simp only [headM, if_neg c1, if_neg c3, if_neg (show ¬ (rd l 0 / 64 ≠ 2) by simpa using c2)]; rfl]
          exact this
    · refine Ev.eq fun k => ?_
      simp only [head_Read.f, headM, if_neg c1]
      rw [if_neg (by omega), if_pos (by omega), if_neg c2, if_pos (by simpa using c2)]
      rfl
end Go.Proofs.Ytcbdgknfkoodoaa.S
