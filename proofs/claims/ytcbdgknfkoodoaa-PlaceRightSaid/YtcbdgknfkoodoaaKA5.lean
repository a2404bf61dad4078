/- The walks of the program's functions and the plain proofs for this claim, merged by a program; each theorem says what it says, no conditions beyond those stated. -/
import Derived.Test.YtcbdgknfkoodoaaKA4
import Derived.IntWalk
import Derived.Laws.BitsLemmas
import Derived.Laws.Bits64
namespace Go.Proofs.Ytcbdgknfkoodoaa.S
open Go.RowKit Go.Proofs.YtcbdgknfkoodoaaW.PrintWords
set_option linter.unusedVariables false
set_option linter.unusedSimpArgs false
def Byt (l : List Int) : Prop := ∀ x ∈ l, 0 ≤ x ∧ x ≤ 255
theorem brd {l : List Int} (h : Byt l) (i : Int) : 0 ≤ rd l i ∧ rd l i ≤ 255 := by
  unfold rd
  by_cases hi : i.toNat < l.length
  · rw [List.getD_eq_getElem?_getD, List.getElem?_eq_getElem hi]
    exact h _ (List.getElem_mem hi)
  · rw [List.getD_eq_getElem?_getD, List.getElem?_eq_none (by omega)]
    simp
theorem Byt.take {l : List Int} (h : Byt l) (n : Nat) : Byt (l.take n) := fun x hx => h x (List.mem_of_mem_take hx)
theorem Byt.drop {l : List Int} (h : Byt l) (n : Nat) : Byt (l.drop n) := fun x hx => h x (List.mem_of_mem_drop hx)
theorem Byt.append {l m : List Int} (h : Byt l) (k : Byt m) : Byt (l ++ m) := fun x hx => by
  rcases List.mem_append.1 hx with hx | hx
  · exact h x hx
  · exact k x hx
theorem byt_of_wf {l : List Int} (h : ∀ x ∈ l, (Lit.int .u8 x).wf = true) : Byt l := fun x hx => by
  have := h x hx
  simp [Lit.wf, IntKind.min, IntKind.max, IntKind.signed, IntKind.bits] at this
  omega
theorem w64 {n : Int} (h0 : -9223372036854775808 ≤ n) (h1 : n ≤ 9223372036854775807) : wrap64 n = n := IntWalk.wrap64_in n ⟨h0, h1⟩
theorem u64w {n : Int} (h0 : 0 ≤ n) (h1 : n ≤ 18446744073709551615) : IntKind.u64.wrap n = n := IntWalk.u64_in n ⟨h0, h1⟩
theorem u16w {n : Int} (h0 : 0 ≤ n) (h1 : n ≤ 65535) : IntKind.u16.wrap n = n := IntWalk.u16_in n ⟨h0, h1⟩
theorem rd_eq {l : List Int} {i : Int} (h0 : 0 ≤ i) (h1 : i < l.length) : rd l i = l[i.toNat]'(by omega) := by
  unfold rd
  rw [List.getD_eq_getElem?_getD, List.getElem?_eq_getElem (by omega)]
  rfl
theorem rd_nat (l : List Int) (i : Nat) : rd l (i : Int) = l.getD i 0 := by simp [rd]
def be (v : Int) (y : List Int) : Int := y.foldl (fun v x => v * 256 + x) v
theorem be_cons (v x : Int) (y : List Int) : be v (x :: y) = be (v * 256 + x) y := rfl
theorem be_nil (v : Int) : be v [] = v := rfl
theorem be_range {y : List Int} (h : Byt y) : ∀ v : Int, 0 ≤ v → 0 ≤ be v y ∧ be v y < (v + 1) * 256 ^ y.length := by
  induction y with
  | nil => intro v hv; simp [be]; omega
  | cons x y ih =>
    intro v hv
    have hx := h x (by simp)
    have := ih (fun z hz => h z (by simp [hz])) (v * 256 + x) (by omega)
    rw [be_cons]
    refine ⟨this.1, Int.lt_of_lt_of_le this.2 ?_⟩
    rw [List.length_cons, Int.pow_succ, Int.mul_comm (256 ^ y.length) 256, ← Int.mul_assoc]
    exact Int.mul_le_mul_of_nonneg_right (by omega) (Int.pow_nonneg (by decide))
theorem or_join {x y : Int} (hx0 : 0 ≤ x) (hx : x < 72057594037927936) (hy0 : 0 ≤ y) (hy : y ≤ 255) :
    Go.bits .or .u64 (IntKind.u64.wrap (x * 256)) (IntKind.u64.wrap y) = x * 256 + y := by
  rw [u64w (by omega) (by omega), u64w (by omega) (by omega)]
  exact bits_join .u64 64 (by decide) (fun n h0 h1 => u64w h0 (by omega)) 8 _ _ (by omega) (by omega) (by omega) (by omega) (by omega) (by omega)
theorem or_join16 {x y : Int} (hx0 : 0 ≤ x) (hx : x ≤ 255) (hy0 : 0 ≤ y) (hy : y ≤ 255) :
    Go.bits .or .u16 (IntKind.u16.wrap ((IntKind.u16.wrap x) * 256)) (IntKind.u16.wrap y) = x * 256 + y := by
  rw [u16w hx0 (by omega), u16w (by omega) (by omega), u16w (by omega) (by omega)]
  exact bits_join .u16 16 (by decide) (fun n h0 h1 => u16w h0 (by omega)) 8 _ _ (by omega) (by omega) (by omega) (by omega) (by omega) (by omega)
theorem or_join64 {x y : Int} (hx0 : 0 ≤ x) (hx : x ≤ 255) (hy0 : 0 ≤ y) (hy : y ≤ 255) :
    Go.bits .or .i64 (wrap64 ((wrap64 x) * 256)) (wrap64 y) = x * 256 + y := by
  rw [w64 (n := x) (by omega) (by omega), w64 (by omega) (by omega), w64 (by omega) (by omega)]
  exact bits_join .i64 62 (by decide) (fun n h0 h1 => by rw [IntKind.wrap_i64]; omega) 8 _ _ (by omega) (by omega) (by omega) (by omega) (by omega) (by omega)
theorem nat_of {x : Int} (h0 : 0 ≤ x) (h1 : x ≤ 255) : ∃ n : Nat, n < 256 ∧ x = n := ⟨x.toNat, by omega, by omega⟩
theorem and8 : ∀ n : Nat, n < 256 → Go.bits .and .u8 (n : Int) 15 = ((n % 16 : Nat) : Int) ∧ (Go.bits .and .u8 (n : Int) 32 != 0) = decide (n / 32 % 2 = 1) ∧ (Go.bits .and .u8 (n : Int) 16 != 0) = decide (n / 16 % 2 = 1) ∧ (Go.bits .and .u8 (n : Int) 128 != 0) = decide (128 ≤ n) ∧ Go.bits .and .u8 (n : Int) 127 = ((n % 128 : Nat) : Int) := by decide +kernel
theorem and15 {x : Int} (h0 : 0 ≤ x) (h1 : x ≤ 255) : Go.bits .and .u8 x 15 = x % 16 := by
  obtain ⟨n, hn, rfl⟩ := nat_of h0 h1
  rw [(and8 n hn).1]; omega
theorem and32 {x : Int} (h0 : 0 ≤ x) (h1 : x ≤ 255) : (Go.bits .and .u8 x 32 != 0) = decide (x / 32 % 2 = 1) := by
  obtain ⟨n, hn, rfl⟩ := nat_of h0 h1
  rw [(and8 n hn).2.1]; apply decide_eq_decide.2; omega
theorem and16 {x : Int} (h0 : 0 ≤ x) (h1 : x ≤ 255) : (Go.bits .and .u8 x 16 != 0) = decide (x / 16 % 2 = 1) := by
  obtain ⟨n, hn, rfl⟩ := nat_of h0 h1
  rw [(and8 n hn).2.2.1]; apply decide_eq_decide.2; omega
theorem and128 {x : Int} (h0 : 0 ≤ x) (h1 : x ≤ 255) : (Go.bits .and .u8 x 128 != 0) = decide (128 ≤ x) := by
  obtain ⟨n, hn, rfl⟩ := nat_of h0 h1
  rw [(and8 n hn).2.2.2.1]; apply decide_eq_decide.2; omega
theorem and127 {x : Int} (h0 : 0 ≤ x) (h1 : x ≤ 255) : Go.bits .and .u8 x 127 = x % 128 := by
  obtain ⟨n, hn, rfl⟩ := nat_of h0 h1
  rw [(and8 n hn).2.2.2.2]; omega
theorem ob {α β : Type} (a : α) (f : α → Option β) : (some a).bind f = f a := Eq.trans (Option.bind_some a f) (Eq.refl _)
theorem Ev.pos {α : Type} {c : Prop} [Decidable c] {x y : Nat → Option α} {r : α} (h : c) (e : Ev x r) : Ev (fun k => if c then x k else y k) r := Ev.congr (fun k => if_pos h) e
theorem Ev.neg {α : Type} {c : Prop} [Decidable c] {x y : Nat → Option α} {r : α} (h : ¬ c) (e : Ev y r) : Ev (fun k => if c then x k else y k) r := Ev.congr (fun k => if_neg h) e
theorem Ev.eq {α : Type} {g : Nat → Option α} {r : α} (h : ∀ k, g k = some r) : Ev g r := ⟨0, fun k _ => h k⟩
end Go.Proofs.Ytcbdgknfkoodoaa.S
namespace Go.Proofs.Ytcbdgknfkoodoaa.S
open Go.RowKit Go.Proofs.YtcbdgknfkoodoaaW.PrintWords Go.Proofs.Ytcbdgknfkoodoaa.F
set_option linter.unusedVariables false
set_option linter.unusedSimpArgs false
theorem get_loop {y : List Int} (hb : Byt y) (h8 : y.length ≤ 8) : ∀ (d i : Nat) (v : Int), i + d = y.length → 0 ≤ v → v < ((256 ^ i : Nat) : Int) → Ev (fun k => octet_Get.l0 k v y (y.length : Int) (i : Int)) (be v (y.drop i), 0) := by
  intro d
  induction d with
  | zero =>
    intro i v hi hv hv2
    refine Ev.step (f := fun _ => some (be v (y.drop i), 0)) (fun k => ?_) (Ev.now _)
    simp only [octet_Get.l0]
    rw [if_neg (by omega), List.drop_of_length_le (by omega)]
    rfl
  | succ d ih =>
    intro i v hi hv hv2
    have hx := brd hb (i : Int)
    have hp : 256 ^ i ≤ 72057594037927936 := Nat.le_trans (Nat.pow_le_pow_right (show 0 < 256 by decide) (show i ≤ 7 by omega)) (by decide)
    have hv3 : v < 72057594037927936 := Int.lt_of_lt_of_le hv2 (Int.ofNat_le.2 hp)
    refine Ev.step (f := fun k => octet_Get.l0 k (v * 256 + rd y i) y (y.length : Int) ((i + 1 : Nat) : Int)) (fun k => ?_) ?_
    · conv => lhs; unfold octet_Get.l0
      rw [if_pos (by omega), if_pos (by omega), if_pos (by omega), or_join hv hv3 hx.1 hx.2, w64 (by omega) (by omega)]
      rfl
    · have := ih (i + 1) (v * 256 + rd y i) (by omega) (by omega) (by rw [Nat.pow_succ, Int.natCast_mul]; omega)
      have hd : y.drop i = rd y i :: y.drop (i + 1) := by
        rw [List.drop_eq_getElem_cons (show i < y.length by omega), rd_eq (by omega) (by omega)]
        rfl
      rw [hd, be_cons]
      exact this
def cutn (l : List Int) (at_ n : Nat) : List Int := (l.drop at_).take n
def w32 (l : List Int) (at_ : Nat) : Int := be 0 (cutn l at_ 4)
theorem w32_range {l : List Int} (hb : Byt l) (a : Nat) (h : a + 4 ≤ l.length) : 0 ≤ w32 l a ∧ w32 l a < 4294967296 := by
  have := be_range (y := cutn l a 4) ((hb.drop a).take 4) 0 (by omega)
  have hl : (cutn l a 4).length = 4 := by simp [cutn]; omega
  rw [hl] at this
  exact this
theorem get4_ev {l : List Int} (hb : Byt l) (hl : l.length ≤ 140737488351232) (a : Nat) (h : a + 4 ≤ l.length) : Ev (fun k => octet_Get.f k l (a : Int) 4) (w32 l a, 0) := by
  have hy : (l.take (a + 4)).drop a = cutn l a 4 := by rw [cutn, List.drop_take]; congr 1; omega
  have hyl : (cutn l a 4).length = 4 := by simp [cutn]; omega
  refine Ev.step (f := fun k => octet_Get.l0 k 0 (cutn l a 4) ((cutn l a 4).length : Int) ((0 : Nat) : Int)) (fun k => ?_) ?_
  · simp only [octet_Get.f]
    rw [if_neg (by omega), if_neg (by omega), show decide ((a : Int) < 0) = false from decide_eq_false (by omega)]
    simp only [octet_Get.j0]
    rw [if_neg Bool.false_ne_true]
    have hs : octet_span.f (l.length : Int) (a : Int) 4 = some 0 := by
      unfold octet_span.f
      rw [if_neg (by omega), w64 (by omega) (by omega), if_neg (by omega)]
    rw [hs]
    simp only [ob]
    rw [if_pos trivial, if_pos (by omega), w64 (by omega) (by omega), if_pos (by omega), if_pos (by omega)]
    rw [show ((a : Int) + 4).toNat = a + 4 by omega, Int.toNat_natCast, hy]
    rfl
  · have := get_loop (y := cutn l a 4) ((hb.drop a).take 4) (by omega) 4 0 0 (by omega) (by omega) (by decide)
    rw [List.drop_zero] at this
    exact this
theorem word_ev {l : List Int} (hb : Byt l) (hl : l.length ≤ 140737488351232) (a : Nat) (h : a + 4 ≤ l.length) : Ev (fun k => head_wordAt.f k l (a : Int)) (w32 l a) := by
  have hr := w32_range hb a h
  have e1 := get4_ev hb hl a h
  refine Ev.congr (f := fun k => (octet_Get.f k l (a : Int) 4).bind fun b => some (b.1 % 4294967296)) (fun k => by unfold head_wordAt.f; rfl) (Ev.bind e1 (f := fun _ b => some (b.1 % 4294967296)) ?_)
  refine Ev.eq fun k => ?_
  dsimp only
  rw [Int.emod_eq_of_lt hr.1 hr.2]
structure Hd where
  pad : Bool
  ext : Bool
  mark : Bool
  typ : Int
  seq : Int
  tm : Int
  ssrc : Int
  csrc : List Int
def Hd.zero : Hd := ⟨false, false, false, 0, 0, 0, 0, []⟩
def words (l : List Int) (a n : Nat) : List Int := (List.range n).map fun i => w32 l (a + 4 * i)
def headM (l : List Int) : Hd × Int × Int :=
  if l.length < 12 then (.zero, 0, 2) else if rd l 0 / 64 ≠ 2 then (.zero, 0, 3) else if (l.length : Int) < 12 + 4 * (rd l 0 % 16) then (.zero, 0, 2) else
  (⟨decide (rd l 0 / 32 % 2 = 1), decide (rd l 0 / 16 % 2 = 1), decide (128 ≤ rd l 1), rd l 1 % 128, rd l 2 * 256 + rd l 3, w32 l 4, w32 l 8, words l 12 (rd l 0 % 16).toNat⟩, 12 + 4 * (rd l 0 % 16), 0)
abbrev hflat (h : Hd × Int × Int) : Bool × Bool × Bool × Int × Int × Int × Int × List Int × Int × Int := (h.1.pad, h.1.ext, h.1.mark, h.1.typ, h.1.seq, h.1.tm, h.1.ssrc, h.1.csrc, h.2.1, h.2.2)
theorem head_loop {l : List Int} (hb : Byt l) (hl : l.length ≤ 140737488351232) {n : Nat} (hn : n ≤ 15) (h : 12 + 4 * n ≤ l.length) (x6 : Int) (p e m : Bool) (ty sq tm ss : Int) :
    ∀ (d i : Nat), i + d = n → Ev (fun k => head_Read.l0 k l (n : Int) x6 (i : Int) p e m ty sq tm ss (words l 12 i)) (p, e, m, ty, sq, tm, ss, words l 12 n, x6, 0) := by
  intro d
  induction d with
  | zero =>
    intro i hi
    obtain rfl : i = n := by omega
    refine Ev.step (f := fun _ => some (p, e, m, ty, sq, tm, ss, words l 12 i, x6, 0)) (fun k => ?_) (Ev.now _)
    simp only [head_Read.l0]
    rw [if_neg (by omega)]
  | succ d ih =>
    intro i hi
    refine Ev.step (f := fun k => (head_wordAt.f k l ((12 + 4 * i : Nat) : Int)).bind fun t => if (words l 12 i).length < 35184372088832 then head_Read.l0 k l (n : Int) x6 ((i + 1 : Nat) : Int) p e m ty sq tm ss (words l 12 i ++ [t]) else none) (fun k => ?_) ?_
    · conv => lhs; unfold head_Read.l0
      rw [if_pos (by omega), w64 (n := 4 * (i : Int)) (by omega) (by omega), w64 (by omega) (by omega), w64 (n := (i : Int) + 1) (by omega) (by omega)]
      rfl
    · refine Ev.bind (word_ev hb hl (12 + 4 * i) (by omega)) ?_
      refine Ev.congr (f := fun k => head_Read.l0 k l (n : Int) x6 ((i + 1 : Nat) : Int) p e m ty sq tm ss (words l 12 (i + 1))) (fun k => ?_) (ih (i + 1) (by omega))
      rw [if_pos (by simp [words]; omega)]
      congr 1
      simp [words, List.range_succ]
theorem head_ev {l : List Int} (hb : Byt l) (hl : l.length ≤ 140737488351232) : Ev (fun k => head_Read.f k l) (hflat (headM l)) := by
  have h0 := brd hb 0
  have h1 := brd hb 1
  have h2 := brd hb 2
  have h3 := brd hb 3
  by_cases c1 : l.length < 12
  · refine Ev.eq fun k => ?_
    simp only [head_Read.f, headM, if_pos c1, if_pos (show (l.length : Int) < 12 by omega)]
    rfl
  · by_cases c2 : rd l 0 / 64 = 2
    · by_cases c3 : (l.length : Int) < 12 + 4 * (rd l 0 % 16)
      · refine Ev.eq fun k => ?_
        simp only [head_Read.f, headM, if_neg c1, if_pos c3]
        rw [if_neg (by omega), if_pos (by omega), if_pos c2, and15 h0.1 h0.2, w64 (n := rd l 0 % 16) (by omega) (by omega), w64 (n := 4 * _) (by omega) (by omega), w64 (by omega) (by omega), if_pos c3, if_neg (by simpa using c2)]
        rfl
      · have hn : ((rd l 0 % 16).toNat : Int) = rd l 0 % 16 := by omega
        refine Ev.congr (f := fun k => (head_wordAt.f k l ((4 : Nat) : Int)).bind fun t => (head_wordAt.f k l ((8 : Nat) : Int)).bind fun u => head_Read.l0 k l ((rd l 0 % 16).toNat : Int) (12 + 4 * (rd l 0 % 16)) ((0 : Nat) : Int) (decide (rd l 0 / 32 % 2 = 1)) (decide (rd l 0 / 16 % 2 = 1)) (decide (128 ≤ rd l 1)) (rd l 1 % 128) (rd l 2 * 256 + rd l 3) t u (words l 12 0)) (fun k => ?_) ?_
        · simp only [head_Read.f]
          rw [if_neg (by omega), if_pos (by omega), if_pos c2, and15 h0.1 h0.2, w64 (n := rd l 0 % 16) (by omega) (by omega), w64 (n := 4 * _) (by omega) (by omega), w64 (n := 12 + _) (by omega) (by omega), if_neg c3, if_pos (by omega), if_pos (by omega), if_pos (by omega), and32 h0.1 h0.2, and16 h0.1 h0.2, and128 h1.1 h1.2, and127 h1.1 h1.2, w64 (n := rd l 1 % 128) (by omega) (by omega), or_join16 h2.1 h2.2 h3.1 h3.2, hn]
          rfl
        · refine Ev.bind (word_ev hb hl 4 (by omega)) (Ev.bind (word_ev hb hl 8 (by omega)) ?_)
          have := head_loop hb hl (n := (rd l 0 % 16).toNat) (by omega) (by omega) (12 + 4 * (rd l 0 % 16)) (decide (rd l 0 / 32 % 2 = 1)) (decide (rd l 0 / 16 % 2 = 1)) (decide (128 ≤ rd l 1)) (rd l 1 % 128) (rd l 2 * 256 + rd l 3) (w32 l 4) (w32 l 8) (rd l 0 % 16).toNat 0 (by omega)
          rw [show hflat (headM l) = _ from by simp only [headM, if_neg c1, if_neg c3, if_neg (show ¬ (rd l 0 / 64 ≠ 2) by simpa using c2)]; rfl]
          exact this
    · refine Ev.eq fun k => ?_
      simp only [head_Read.f, headM, if_neg c1]
      rw [if_neg (by omega), if_pos (by omega), if_neg c2, if_pos (by simpa using c2)]
      rfl
end Go.Proofs.Ytcbdgknfkoodoaa.S
namespace Go.Proofs.Ytcbdgknfkoodoaa.S
open Go.RowKit Go.Proofs.YtcbdgknfkoodoaaW.PrintWords Go.Proofs.Ytcbdgknfkoodoaa.F
set_option linter.unusedVariables false
set_option linter.unusedSimpArgs false
theorem rdL2 {ls : List (List Int)} {i : Nat} (h : i < ls.length) : rd_L2 ls (i : Int) = ls[i] := by
  simp [rd_L2, h]
theorem flat_take (ls : List (List Int)) (i : Nat) (h : i < ls.length) : (ls.take (i + 1)).flatten = (ls.take i).flatten ++ ls[i] := by
  rw [List.take_succ_eq_append_getElem h, List.flatten_append]
  simp
theorem flat_le (ls : List (List Int)) (i : Nat) : (ls.take i).flatten.length ≤ ls.flatten.length := by
  conv => rhs; rw [← List.take_append_drop i ls, List.flatten_append, List.length_append]
  omega
theorem join1 {ls : List (List Int)} (hn : ls.length ≤ 140737488351232) (hl : ls.flatten.length ≤ 140737488351232) : ∀ (d i : Nat), i + d = ls.length → Ev (fun k => octet_Join.l1 k (ls.take i).flatten ls (ls.length : Int) (i : Int)) ls.flatten := by
  intro d
  induction d with
  | zero =>
    intro i hi
    refine Ev.step (f := fun _ => some ls.flatten) (fun k => ?_) (Ev.now _)
    simp only [octet_Join.l1]
    rw [if_neg (by omega), List.take_of_length_le (by omega)]
  | succ d ih =>
    intro i hi
    have hf := flat_take ls i (by omega)
    have hle := flat_le ls (i + 1)
    rw [hf, List.length_append] at hle
    refine Ev.step (f := fun k => octet_Join.l1 k (ls.take (i + 1)).flatten ls (ls.length : Int) ((i + 1 : Nat) : Int)) (fun k => ?_) (ih (i + 1) (by omega))
    conv => lhs; unfold octet_Join.l1
    rw [if_pos (by omega), if_pos (by omega), if_pos (by omega), rdL2 (show i < ls.length by omega), if_pos (by omega), w64 (by omega) (by omega), hf]
    rfl
theorem join0 {ls : List (List Int)} (hn : ls.length ≤ 140737488351232) (hl : ls.flatten.length ≤ 140737488351232) : ∀ (d i : Nat), i + d = ls.length → Ev (fun k => octet_Join.l0 k ls ((ls.take i).flatten.length : Int) ls (ls.length : Int) (i : Int)) ls.flatten := by
  intro d
  induction d with
  | zero =>
    intro i hi
    refine Ev.step (f := fun k => octet_Join.l1 k (ls.take 0).flatten ls (ls.length : Int) ((0 : Nat) : Int)) (fun k => ?_) (join1 hn hl ls.length 0 (by omega))
    conv => lhs; unfold octet_Join.l0
    have := flat_le ls i
    rw [if_neg (by omega), if_pos (by omega), if_pos (by omega)]
    rfl
  | succ d ih =>
    intro i hi
    have hf := flat_take ls i (by omega)
    have hle := flat_le ls (i + 1)
    rw [hf, List.length_append] at hle
    refine Ev.step (f := fun k => octet_Join.l0 k ls ((ls.take (i + 1)).flatten.length : Int) ls (ls.length : Int) ((i + 1 : Nat) : Int)) (fun k => ?_) (ih (i + 1) (by omega))
    conv => lhs; unfold octet_Join.l0
    rw [if_pos (by omega), if_pos (by omega), if_pos (by omega), rdL2 (show i < ls.length by omega), w64 (n := (i : Int) + 1) (by omega) (by omega), w64 (by omega) (by omega), hf, List.length_append]
    rfl
theorem join_ev {ls : List (List Int)} (hn : ls.length ≤ 140737488351232) (hl : ls.flatten.length ≤ 140737488351232) : Ev (fun k => octet_Join.f k ls) ls.flatten :=
  Ev.congr (fun k => by unfold octet_Join.f; rfl) (join0 hn hl ls.length 0 (by omega))
theorem part_ev {l : List Int} (hl : l.length ≤ 140737488351232) : Ev (fun k => packet_part.f k l) l := by
  by_cases h : l.length = 0
  · obtain rfl := List.eq_nil_of_length_eq_zero h
    refine Ev.eq fun k => ?_
    unfold packet_part.f
    rw [if_pos (by simp)]
  · have e := join_ev (ls := [l]) (by simp) (by simpa using hl)
    refine Ev.congr (f := fun k => (octet_Join.f k [l]).bind fun t => some t) (fun k => ?_) ?_
    · unfold packet_part.f
      rw [if_neg (by omega)]
    · refine Ev.bind e (Ev.eq fun k => ?_)
      simp
def trailM (l : List Int) : Int := if l.length = 0 then 0 else if rd l ((l.length : Int) - 1) < 1 ∨ (l.length : Int) < rd l ((l.length : Int) - 1) then 0 else rd l ((l.length : Int) - 1)
theorem trailM_le (l : List Int) (h : trailM l ≠ 0) : 1 ≤ trailM l ∧ trailM l ≤ l.length := by
  unfold trailM at h ⊢
  split at h
  · exact absurd rfl h
  · split at h
    · exact absurd rfl h
    · rename_i h1 h2
      rw [if_neg h1, if_neg h2]
      omega
theorem trail_eq {l : List Int} (hb : Byt l) (hl : l.length ≤ 140737488351232) : pad_Trail.f l = some (if trailM l = 0 then (0, 5) else (trailM l, 0)) := by
  have hr := brd hb ((l.length : Int) - 1)
  unfold pad_Trail.f trailM
  by_cases c : l.length = 0
  · rw [if_pos (by omega), if_pos c, if_pos rfl]
  · rw [if_neg (by omega), w64 (n := (l.length : Int) - 1) (by omega) (by omega), if_pos (by omega), if_pos (by omega), w64 (by omega) (by omega), if_neg c]
    by_cases c1 : rd l ((l.length : Int) - 1) < 1
    · rw [if_pos c1, if_pos (show rd l ((l.length : Int) - 1) < 1 ∨ _ from .inl c1)]
      simp
    · rw [if_neg c1]
      by_cases c2 : (l.length : Int) < rd l ((l.length : Int) - 1)
      · rw [if_pos c2, if_pos (show _ ∨ (l.length : Int) < rd l ((l.length : Int) - 1) from .inr c2)]
        simp
      · rw [if_neg c2, if_neg (by omega), if_neg (by omega)]
structure Pk where
  h : Hd
  prof : Int
  ex : List Int
  pl : List Int
  padn : Int
def Pk.zero : Pk := ⟨.zero, 0, [], [], 0⟩
def openT (left : List Int) (h : Hd) (prof : Int) (ex : List Int) : Pk × List Int × Int :=
  if h.pad = true then (if trailM left = 0 then (.zero, [], 5) else (⟨h, prof, ex, left.take (left.length - (trailM left).toNat), trailM left⟩, left.drop (left.length - (trailM left).toNat), 0)) else (⟨h, prof, ex, left, 0⟩, [], 0)
def openE (left : List Int) (h : Hd) : Pk × List Int × Int :=
  if left.length < 4 then (.zero, [], 2) else if (left.length : Int) - 4 < 4 * (rd left 2 * 256 + rd left 3) then (.zero, [], 2) else
  openT ((left.drop 4).drop (4 * (rd left 2 * 256 + rd left 3)).toNat) h (rd left 0 * 256 + rd left 1) ((left.drop 4).take (4 * (rd left 2 * 256 + rd left 3)).toNat)
def openM (l : List Int) : Pk × List Int × Int :=
  if 65535 < l.length then (.zero, [], 4) else if (headM l).2.2 ≠ 0 then (.zero, [], (headM l).2.2) else
  if (headM l).1.ext = true then openE (l.drop (headM l).2.1.toNat) (headM l).1 else openT (l.drop (headM l).2.1.toNat) (headM l).1 0 []
abbrev oflat (o : Pk × List Int × Int) : Bool × Bool × Bool × Int × Int × Int × Int × List Int × Int × List Int × List Int × Int × List Int × Int :=
  (o.1.h.pad, o.1.h.ext, o.1.h.mark, o.1.h.typ, o.1.h.seq, o.1.h.tm, o.1.h.ssrc, o.1.h.csrc, o.1.prof, o.1.ex, o.1.pl, o.1.padn, o.2.1, o.2.2)
theorem openT_ev {left : List Int} (hb : Byt left) (hl : left.length ≤ 140737488351232) (h : Hd) (prof : Int) (ex : List Int) :
    Ev (fun k => packet_open.j0 k left h.pad h.ext h.mark h.typ h.seq h.tm h.ssrc h.csrc h.pad h.ext h.mark h.typ h.seq h.tm h.ssrc h.csrc prof ex 0) (oflat (openT left h prof ex)) := by
  unfold openT
  by_cases c : h.pad = true
  · rw [if_pos c]
    by_cases c2 : trailM left = 0
    · rw [if_pos c2]
      refine Ev.step (f := fun _ => some (oflat (.zero, [], 5))) (fun k => ?_) (Ev.now _)
      rw [packet_open.j0]
      rw [if_pos c, trail_eq hb hl, if_pos c2]
      simp only [ob]
      rw [if_neg (by decide)]
      rfl
    · have ht := trailM_le left c2
      rw [if_neg c2]
      refine Ev.step (f := fun k => (packet_part.f k (left.take (left.length - (trailM left).toNat))).bind fun t => some (h.pad, h.ext, h.mark, h.typ, h.seq, h.tm, h.ssrc, h.csrc, prof, ex, t, trailM left, left.drop (left.length - (trailM left).toNat), 0)) (fun k => ?_) ?_
      · rw [packet_open.j0]
        rw [if_pos c, trail_eq hb hl, if_neg c2]
        simp only [ob]
        rw [if_pos trivial, w64 (by omega) (by omega), if_pos (by omega), if_pos (by omega), show ((left.length : Int) - trailM left).toNat = left.length - (trailM left).toNat by omega]
      · exact Ev.bind (part_ev (by rw [List.length_take]; omega)) (Ev.now _)
  · rw [if_neg c]
    refine Ev.step (f := fun k => (packet_part.f k left).bind fun t => some (h.pad, h.ext, h.mark, h.typ, h.seq, h.tm, h.ssrc, h.csrc, prof, ex, t, 0, ([] : List Int), 0)) (fun k => ?_) ?_
    · rw [packet_open.j0]
      rw [if_neg c, Int.sub_zero, w64 (by omega) (by omega), if_pos (by omega), if_pos (by omega), Int.toNat_natCast, List.take_length, List.drop_length]
    · exact Ev.bind (part_ev hl) (Ev.now _)
theorem open_ev {l : List Int} (hb : Byt l) : Ev (fun k => packet_open.f k l) (oflat (openM l)) := by
  by_cases c : 65535 < l.length
  · refine Ev.eq fun k => ?_
    unfold packet_open.f openM
    rw [if_pos (by omega), if_pos c]
    rfl
  · have hl : l.length ≤ 140737488351232 := by omega
    simp only [packet_open.f]
    rw [show ∀ α (x y : Nat → Option α), (fun k => if (l.length : Int) > 65535 then x k else y k) = y from fun α x y => funext fun k => if_neg (by omega)]
    · refine Ev.bind (head_ev hb hl) ?_
      generalize hh : headM l = H
      have hr : H.2.2 = 0 → 12 ≤ H.2.1 ∧ H.2.1 ≤ l.length := by
        intro h0
        rw [← hh] at h0 ⊢
        unfold headM at h0 ⊢
        split at h0
        · cases h0
        · split at h0
          · cases h0
          · split at h0
            · cases h0
            · rename_i h1 h2 h3
              have := brd hb 0
              rw [if_neg h1, if_neg h2, if_neg h3]
              dsimp only
              omega
      unfold openM
      rw [if_neg c, hh]
      by_cases c1 : H.2.2 = 0
      · have hr := hr c1
        rw [if_neg (show ¬ (H.2.2 ≠ 0) by simpa using c1)]
        have hbl := hb.drop H.2.1.toNat
        have hll : (l.drop H.2.1.toNat).length = l.length - H.2.1.toNat := List.length_drop
        generalize hL : l.drop H.2.1.toNat = left at hbl hll
        by_cases c2 : H.1.ext = true
        · rw [if_pos c2]
          have r0 := brd hbl 0
          have r1 := brd hbl 1
          have r2 := brd hbl 2
          have r3 := brd hbl 3
          unfold openE
          by_cases c3 : left.length < 4
          · rw [if_pos c3]
            refine Ev.congr (f := fun _ => some (oflat (.zero, [], 2))) (fun k => ?_) (Ev.now _)
            dsimp only [hflat]
            rw [if_pos c1, if_pos (by omega), if_pos (by omega)]
            simp only [ob]
            rw [if_pos c2, if_pos (by omega)]
            rfl
          · rw [if_neg c3]
            by_cases c4 : (left.length : Int) - 4 < 4 * (rd left 2 * 256 + rd left 3)
            · rw [if_pos c4]
              refine Ev.congr (f := fun _ => some (oflat (.zero, [], 2))) (fun k => ?_) (Ev.now _)
              dsimp only [hflat]
              rw [if_pos c1, if_pos (by omega), if_pos (by omega)]
              simp only [ob]
              rw [if_pos c2, if_neg (by omega), if_pos (by omega), if_pos (by omega), if_pos (by omega), if_pos (by omega), if_pos (by omega), or_join64 r2.1 r2.2 r3.1 r3.2, w64 (by omega) (by omega), List.length_drop, if_pos (by omega)]
              rfl
            · rw [if_neg c4]
              have hbd := hbl.drop 4
              have hld : (left.drop 4).length = left.length - 4 := List.length_drop
              generalize hD : left.drop 4 = D at hbd hld
              generalize hS : 4 * (rd left 2 * 256 + rd left 3) = sz at c4
              refine Ev.congr (f := fun k => (packet_part.f k (D.take sz.toNat)).bind fun t => packet_open.j0 k (D.drop sz.toNat) H.1.pad H.1.ext H.1.mark H.1.typ H.1.seq H.1.tm H.1.ssrc H.1.csrc H.1.pad H.1.ext H.1.mark H.1.typ H.1.seq H.1.tm H.1.ssrc H.1.csrc (rd left 0 * 256 + rd left 1) t 0) (fun k => ?_) ?_
              · dsimp only [hflat]
                rw [if_pos c1, if_pos (by omega), if_pos (by omega)]
                simp only [ob]
                rw [if_pos c2, if_neg (by omega), if_pos (by omega), if_pos (by omega), if_pos (by omega), if_pos (by omega), if_pos (by omega), or_join64 r2.1 r2.2 r3.1 r3.2, w64 (by omega) (by omega), hD, hS, if_neg (by omega), if_pos (by omega), if_pos (by omega), or_join16 r0.1 r0.2 r1.1 r1.2]
              · exact Ev.bind (part_ev (by rw [List.length_take]; omega)) (openT_ev (hbd.drop _) (by rw [List.length_drop]; omega) H.1 _ _)
        · rw [if_neg c2]
          refine Ev.congr (f := fun k => packet_open.j0 k left H.1.pad H.1.ext H.1.mark H.1.typ H.1.seq H.1.tm H.1.ssrc H.1.csrc H.1.pad H.1.ext H.1.mark H.1.typ H.1.seq H.1.tm H.1.ssrc H.1.csrc 0 [] 0) (fun k => ?_) (openT_ev hbl (by omega) H.1 _ _)
          dsimp only [hflat]
          rw [if_pos c1, if_pos (by omega), if_pos (by omega)]
          simp only [ob]
          rw [if_neg c2]
      · rw [if_pos (show H.2.2 ≠ 0 from c1)]
        refine Ev.eq fun k => ?_
        dsimp only [hflat]
        rw [if_neg c1]
        rfl
abbrev pflat (o : Pk × List Int × Int) : Bool × Bool × Bool × Int × Int × Int × Int × List Int × Int × List Int × List Int × Int × Int :=
  (o.1.h.pad, o.1.h.ext, o.1.h.mark, o.1.h.typ, o.1.h.seq, o.1.h.tm, o.1.h.ssrc, o.1.h.csrc, o.1.prof, o.1.ex, o.1.pl, o.1.padn, o.2.2)
theorem read_ev {l : List Int} (hb : Byt l) : Ev (fun k => packet_Read.f k l) (pflat (openM l)) :=
  Ev.congr (fun k => by unfold packet_Read.f; rfl) (Ev.bind (open_ev hb) (Ev.now _))
end Go.Proofs.Ytcbdgknfkoodoaa.S
namespace Go.Proofs.Ytcbdgknfkoodoaa.S
open Go.RowKit Go.Proofs.YtcbdgknfkoodoaaW.PrintWords Go.Proofs.Ytcbdgknfkoodoaa.F
set_option linter.unusedVariables false
set_option linter.unusedSimpArgs false
def mk (a : Int) : List (Int × Int) → List S32
  | [] => []
  | p :: r => ⟨p.1, a, p.2⟩ :: mk (a + p.2) r
def tot : List (Int × Int) → Int
  | [] => 0
  | p :: r => p.2 + tot r
theorem tot_append (x y : List (Int × Int)) : tot (x ++ y) = tot x + tot y := by
  induction x with
  | nil => simp [tot]
  | cons p r ih => simp only [List.cons_append, tot, ih]; omega
theorem mk_append (x y : List (Int × Int)) : ∀ a, mk a (x ++ y) = mk a x ++ mk (a + tot x) y := by
  induction x with
  | nil => intro a; simp [mk, tot]
  | cons p r ih => intro a; simp only [List.cons_append, mk, ih, tot]; congr 2; rw [Int.add_assoc]
theorem mk_length (x : List (Int × Int)) : ∀ a, (mk a x).length = x.length := by
  induction x with
  | nil => intro a; rfl
  | cons p r ih => intro a; simp [mk, ih]
def Pos (x : List (Int × Int)) : Prop := ∀ p ∈ x, 0 < p.2
theorem tot_ge {x : List (Int × Int)} (h : Pos x) : (x.length : Int) ≤ tot x := by
  induction x with
  | nil => simp [tot]
  | cons p r ih =>
    have h1 := h p (by simp)
    have h2 := ih (fun q hq => h q (by simp [hq]))
    simp only [List.length_cons, tot]
    omega
theorem mk_last {x : List (Int × Int)} (h : x ≠ []) : (rd_T32 (mk 0 x) (((mk 0 x).length : Int) - 1)).f1 + (rd_T32 (mk 0 x) (((mk 0 x).length : Int) - 1)).f2 = tot x := by
  obtain ⟨y, p, rfl⟩ : ∃ y p, x = y ++ [p] := ⟨x.dropLast, x.getLast h, (List.dropLast_concat_getLast h).symm⟩
  rw [mk_append, tot_append]
  have : (((mk 0 y ++ mk (0 + tot y) [p]).length : Int) - 1).toNat = (mk 0 y).length := by simp [mk]
  unfold rd_T32
  rw [this, List.getD_eq_getElem?_getD, List.getElem?_append_right (Nat.le_refl _)]
  simp [mk, tot]
def one (f s : Int) : List (Int × Int) := if 0 < s then [(f, s)] else []
theorem pos_one (f s : Int) : Pos (one f s) := by
  intro p hp
  unfold one at hp
  split at hp
  · simp at hp; subst hp; assumption
  · cases hp
theorem pos_append {x y : List (Int × Int)} (h : Pos x) (k : Pos y) : Pos (x ++ y) := fun p hp => by
  rcases List.mem_append.1 hp with hp | hp
  · exact h p hp
  · exact k p hp
theorem tot_one (f s : Int) (h : 0 ≤ s) : tot (one f s) = s := by
  unfold one
  split
  · simp [tot]
  · simp [tot]; omega
theorem lay_loop (x : List S32) (f t s : Int) (hx : x.length ≤ 1000000) (h0 : -1000000 ≤ t) (h1 : t ≤ 1000000) (hs0 : -1000000 ≤ s) (hs : s ≤ 1000000) :
    Ev (fun k => place_lay.j0 k x f [s] t) (x ++ (if 0 < s then [⟨f, t, s⟩] else [])) := by
  refine Ev.step (f := fun k => place_lay.l0 k x f t [s] 1 0) (fun k => by rw [place_lay.j0]; rfl) ?_
  by_cases c : 0 < s
  · rw [if_pos c]
    refine Ev.step (f := fun k => place_lay.l0 k (x ++ [⟨f, t, s⟩]) f (t + s) [s] 1 1) (fun k => ?_) ?_
    · conv => lhs; rw [place_lay.l0]
      rw [if_pos (by omega), if_pos (by omega), if_pos (by simp), show rd [s] 0 = s from rfl, if_pos (by omega), if_pos (by omega), w64 (by omega) (by omega), w64 (by omega) (by omega)]
      rfl
    · refine Ev.step (f := fun _ => some (x ++ [⟨f, t, s⟩])) (fun k => ?_) (Ev.now _)
      rw [place_lay.l0, if_neg (by omega)]
  · rw [if_neg c, List.append_nil]
    refine Ev.step (f := fun k => place_lay.l0 k x f t [s] 1 1) (fun k => ?_) ?_
    · conv => lhs; rw [place_lay.l0]
      rw [if_pos (by omega), if_pos (by omega), if_pos (by simp), show rd [s] 0 = s from rfl, if_neg (by omega), w64 (by omega) (by omega)]
      rfl
    · refine Ev.step (f := fun _ => some x) (fun k => ?_) (Ev.now _)
      rw [place_lay.l0, if_neg (by omega)]
theorem lay_ev {x : List (Int × Int)} (hp : Pos x) (ht : tot x ≤ 1000000) (f s : Int) (hs0 : -1000000 ≤ s) (hs : s ≤ 1000000) : Ev (fun k => place_lay.f k (mk 0 x) f [s]) (mk 0 (x ++ one f s)) := by
  have hg := tot_ge hp
  have hlen := mk_length x 0
  have key : mk 0 (x ++ one f s) = mk 0 x ++ (if 0 < s then [⟨f, tot x, s⟩] else []) := by
    rw [mk_append]
    unfold one
    split <;> simp [mk]
  rw [key]
  by_cases c : x = []
  · subst c
    refine Ev.congr (fun k => ?_) (lay_loop (mk 0 []) f (tot []) s (by simp [mk]) (by simp [tot]) (by simp [tot]) hs0 hs)
    unfold place_lay.f
    rw [if_neg (by simp [mk])]
    rfl
  · have hl : 0 < x.length := List.length_pos_iff.2 c
    refine Ev.congr (fun k => ?_) (lay_loop (mk 0 x) f (tot x) s (by omega) (by omega) (by omega) hs0 hs)
    unfold place_lay.f
    rw [if_pos (by omega), w64 (n := ((mk 0 x).length : Int) - 1) (by omega) (by omega), if_pos (by omega), if_pos (by omega), mk_last c, w64 (by omega) (by omega)]
def segC (n : Nat) : List (Int × Int) := List.replicate n (6, 4)
def seg0 : List (Int × Int) := [(1, 1), (2, 1), (3, 2), (4, 4), (5, 4)]
def segX (p : Pk) : List (Int × Int) := if p.h.ext = true then (one 7 2 ++ one 8 2) ++ one 9 (p.ex.length : Int) else []
def segP (p : Pk) : List (Int × Int) := one 10 (p.pl.length : Int) ++ (if p.h.pad = true then one 11 (p.padn - 1) ++ one 12 1 else [])
def segs (p : Pk) : List (Int × Int) := ((seg0 ++ segC p.h.csrc.length) ++ segX p) ++ segP p
theorem tot_C (n : Nat) : tot (segC n) = 4 * n := by
  induction n with
  | zero => rfl
  | succ n ih => simp only [segC, List.replicate_succ, tot] at *; omega
theorem pos_C (n : Nat) : Pos (segC n) := fun p hp => by
  have := List.eq_of_mem_replicate hp
  subst this
  decide
theorem pos_0 : Pos seg0 := by unfold Pos seg0; simp
def Fit (p : Pk) : Prop := p.h.csrc.length ≤ 15 ∧ p.ex.length ≤ 300000 ∧ p.pl.length ≤ 100000 ∧ 0 ≤ p.padn ∧ p.padn ≤ 255 ∧ (p.h.pad = true → 1 ≤ p.padn)
theorem pos_X (p : Pk) : Pos (segX p) := by
  unfold segX
  split
  · exact pos_append (pos_append (pos_one _ _) (pos_one _ _)) (pos_one _ _)
  · intro q hq; cases hq
theorem pos_P (p : Pk) : Pos (segP p) := by
  unfold segP
  refine pos_append (pos_one _ _) ?_
  split
  · exact pos_append (pos_one _ _) (pos_one _ _)
  · intro q hq; cases hq
theorem pos_segs (p : Pk) : Pos (segs p) := pos_append (pos_append (pos_append pos_0 (pos_C _)) (pos_X p)) (pos_P p)
theorem of_j1 {x : List (Int × Int)} (hp : Pos x) (ht : tot x ≤ 400000) (p : Pk) (hf : Fit p) : Ev (fun k => place_Of.j1 k (mk 0 x) p.h.pad p.h.ext p.h.mark p.h.typ p.h.seq p.h.tm p.h.ssrc p.h.csrc p.prof p.ex p.pl p.padn) (mk 0 (x ++ segP p), 0) := by
  obtain ⟨h1, h2, h3, h4, h5, h6⟩ := hf
  refine Ev.step (fun k => by rw [place_Of.j1]) ?_
  refine Ev.bind (lay_ev hp (by omega) _ _ (by omega) (by omega)) ?_
  have hp1 := pos_append hp (pos_one 10 (p.pl.length : Int))
  have t1 := tot_one 10 (p.pl.length : Int) (by omega)
  unfold segP
  by_cases c : p.h.pad = true
  · simp only [if_pos c]
    have t2 := tot_one 11 (p.padn - 1) (by have := h6 c; omega)
    rw [w64 (n := p.padn - 1) (by omega) (by omega)]
    refine Ev.bind (lay_ev hp1 (by rw [tot_append]; omega) _ _ (by omega) (by omega)) ?_
    refine Ev.bind (lay_ev (pos_append hp1 (pos_one _ _)) (by rw [tot_append, tot_append]; omega) _ _ (by omega) (by omega)) ?_
    refine Ev.eq fun k => ?_
    simp only [List.append_assoc]
  · simp only [if_neg c, List.append_nil]
    exact Ev.now _
theorem of_l0 (p : Pk) (hf : Fit p) : ∀ (d i : Nat), i + d = p.h.csrc.length → Ev (fun k => place_Of.l0 k (mk 0 (seg0 ++ segC i)) (p.h.csrc.length : Int) (i : Int) p.h.pad p.h.ext p.h.mark p.h.typ p.h.seq p.h.tm p.h.ssrc p.h.csrc p.prof p.ex p.pl p.padn) (mk 0 (segs p), 0) := by
  intro d
  have hf0 := hf
  obtain ⟨h1, h2, h3, h4, h5, h6⟩ := hf
  have tt : ∀ i, tot (seg0 ++ segC i) = 12 + 4 * i := fun i => by rw [tot_append, tot_C]; rfl
  have pp : ∀ i, Pos (seg0 ++ segC i) := fun i => pos_append pos_0 (pos_C i)
  induction d with
  | zero =>
    intro i hi
    obtain rfl : i = p.h.csrc.length := by omega
    have t3 := tt p.h.csrc.length
    by_cases c : p.h.ext = true
    · refine Ev.step (f := fun k => (place_lay.f k (mk 0 (seg0 ++ segC p.h.csrc.length)) 7 [2]).bind fun t => (place_lay.f k t 8 [2]).bind fun t => (place_lay.f k t 9 [(p.ex.length : Int)]).bind fun t => place_Of.j1 k t p.h.pad p.h.ext p.h.mark p.h.typ p.h.seq p.h.tm p.h.ssrc p.h.csrc p.prof p.ex p.pl p.padn) (fun k => ?_) ?_
      · rw [place_Of.l0, if_neg (by omega), if_pos c]
      · have q1 := pos_append (pp p.h.csrc.length) (pos_one 7 2)
        have q2 := pos_append q1 (pos_one 8 2)
        have q3 := pos_append q2 (pos_one 9 (p.ex.length : Int))
        have u1 := tot_one 7 2 (by omega)
        have u2 := tot_one 8 2 (by omega)
        have u3 := tot_one 9 (p.ex.length : Int) (by omega)
        refine Ev.bind (lay_ev (pp _) (by omega) 7 2 (by omega) (by omega)) ?_
        refine Ev.bind (lay_ev q1 (by rw [tot_append]; omega) 8 2 (by omega) (by omega)) ?_
        refine Ev.bind (lay_ev q2 (by rw [tot_append, tot_append]; omega) 9 _ (by omega) (by omega)) ?_
        have := of_j1 q3 (by rw [tot_append, tot_append, tot_append]; omega) p hf0
        unfold segs segX
        rw [if_pos c]
        simp only [List.append_assoc] at this ⊢
        exact this
    · refine Ev.step (f := fun k => place_Of.j1 k (mk 0 (seg0 ++ segC p.h.csrc.length)) p.h.pad p.h.ext p.h.mark p.h.typ p.h.seq p.h.tm p.h.ssrc p.h.csrc p.prof p.ex p.pl p.padn) (fun k => ?_) ?_
      · rw [place_Of.l0, if_neg (by omega), if_neg c]
      · have := of_j1 (pp p.h.csrc.length) (by omega) p hf0
        unfold segs segX
        rw [if_neg c, List.append_nil]
        exact this
  | succ d ih =>
    intro i hi
    refine Ev.step (f := fun k => (place_lay.f k (mk 0 (seg0 ++ segC i)) 6 [4]).bind fun t => place_Of.l0 k t (p.h.csrc.length : Int) ((i + 1 : Nat) : Int) p.h.pad p.h.ext p.h.mark p.h.typ p.h.seq p.h.tm p.h.ssrc p.h.csrc p.prof p.ex p.pl p.padn) (fun k => ?_) ?_
    · conv => lhs; rw [place_Of.l0]
      rw [if_pos (by omega), w64 (by omega) (by omega)]
      rfl
    · refine Ev.bind (lay_ev (pp i) (by have := tt i; omega) 6 4 (by omega) (by omega)) ?_
      have := ih (i + 1) (by omega)
      have e : seg0 ++ segC i ++ one 6 4 = seg0 ++ segC (i + 1) := by
        rw [List.append_assoc]; congr 1; unfold segC one; rw [if_pos (by decide), List.replicate_succ']
      rw [e]
      exact this
def ofM (l : List Int) : List S32 × Int := if (openM l).2.2 = 0 then (mk 0 (segs (openM l).1), 0) else ([], (openM l).2.2)
theorem openT_fit {left : List Int} (hb : Byt left) (h : Hd) (prof : Int) (ex : List Int) (h0 : (openT left h prof ex).2.2 = 0) :
    (openT left h prof ex).1.h = h ∧ (openT left h prof ex).1.ex = ex ∧ (openT left h prof ex).1.prof = prof ∧ 0 ≤ (openT left h prof ex).1.padn ∧ (openT left h prof ex).1.padn ≤ 255 ∧ (h.pad = true → 1 ≤ (openT left h prof ex).1.padn) ∧ (h.pad = false → (openT left h prof ex).1.padn = 0) ∧
    ((openT left h prof ex).1.pl.length : Int) + (openT left h prof ex).1.padn = left.length := by
  unfold openT at h0 ⊢
  by_cases c : h.pad = true
  · rw [if_pos c] at h0 ⊢
    by_cases c2 : trailM left = 0
    · rw [if_pos c2] at h0
      exact absurd h0 (by decide)
    · rw [if_neg c2]
      have ht := trailM_le left c2
      have h255 : trailM left ≤ 255 := by
        unfold trailM
        split
        · omega
        · split
          · omega
          · exact (brd hb _).2
      refine ⟨rfl, rfl, rfl, by dsimp only; omega, h255, fun _ => ht.1, fun hc => by simp [c] at hc, ?_⟩
      dsimp only
      rw [List.length_take]
      omega
  · rw [if_neg c]
    exact ⟨rfl, rfl, rfl, Int.le_refl _, by simp, fun h => absurd h c, fun _ => rfl, by simp⟩
theorem head_fit {l : List Int} (hb : Byt l) (h0 : (headM l).2.2 = 0) : (headM l).1.csrc.length ≤ 15 ∧ (headM l).2.1 = 12 + 4 * ((headM l).1.csrc.length : Int) ∧ (headM l).2.1 ≤ l.length := by
  unfold headM at h0 ⊢
  split at h0
  · exact absurd h0 (by decide)
  · split at h0
    · exact absurd h0 (by decide)
    · split at h0
      · exact absurd h0 (by decide)
      · rename_i h1 h2 h3
        have := brd hb 0
        rw [if_neg h1, if_neg h2, if_neg h3]
        simp only [words, List.length_map, List.length_range]
        omega
theorem open_fit {l : List Int} (hb : Byt l) (h : (openM l).2.2 = 0) : Fit (openM l).1 ∧ tot (segs (openM l).1) = l.length := by
  have key : ∀ (p : Pk), (p.h.pad = true → 1 ≤ p.padn) → (p.h.pad = false → p.padn = 0) → 0 ≤ p.padn → tot (segs p) = 12 + 4 * (p.h.csrc.length : Int) + (if p.h.ext = true then 4 + (p.ex.length : Int) else 0) + p.pl.length + p.padn := by
    intro p h1 h2 h3
    unfold segs segP segX
    rw [tot_append, tot_append, tot_append, tot_append, tot_C, tot_one _ _ (by omega), show tot seg0 = 12 from rfl]
    have e1 : tot (if p.h.ext = true then one 7 2 ++ one 8 2 ++ one 9 (p.ex.length : Int) else []) = if p.h.ext = true then 4 + (p.ex.length : Int) else 0 := by
      split
      · rw [tot_append, tot_append, tot_one _ _ (by omega), tot_one _ _ (by omega), tot_one _ _ (by omega)]; omega
      · rfl
    have e2 : tot (if p.h.pad = true then one 11 (p.padn - 1) ++ one 12 1 else []) = p.padn := by
      by_cases c : p.h.pad = true
      · have := h1 c
        rw [if_pos c, tot_append, tot_one _ _ (by omega), tot_one _ _ (by omega)]; omega
      · rw [if_neg c, h2 (by simpa using c)]; rfl
    rw [e1, e2]
    omega
  unfold openM at h ⊢
  by_cases c : 65535 < l.length
  · rw [if_pos c] at h; exact absurd h (by decide)
  · rw [if_neg c] at h ⊢
    by_cases c1 : (headM l).2.2 ≠ 0
    · rw [if_pos c1] at h; exact absurd h c1
    · rw [if_neg c1] at h ⊢
      have hf := head_fit hb (by simpa using c1)
      generalize headM l = H at h hf c1 ⊢
      have hbl := hb.drop H.2.1.toNat
      have hll : (l.drop H.2.1.toNat).length = l.length - H.2.1.toNat := List.length_drop
      generalize l.drop H.2.1.toNat = left at h hbl hll ⊢
      by_cases c2 : H.1.ext = true
      · rw [if_pos c2] at h ⊢
        unfold openE at h ⊢
        by_cases c3 : left.length < 4
        · rw [if_pos c3] at h; exact absurd h (by decide)
        · rw [if_neg c3] at h ⊢
          by_cases c4 : (left.length : Int) - 4 < 4 * (rd left 2 * 256 + rd left 3)
          · rw [if_pos c4] at h; exact absurd h (by decide)
          · rw [if_neg c4] at h ⊢
            have r2 := brd hbl 2
            have r3 := brd hbl 3
            obtain ⟨e1, e2, e3, e4, e5, e6, e7, e8⟩ := openT_fit ((hbl.drop 4).drop _) H.1 (rd left 0 * 256 + rd left 1) ((left.drop 4).take (4 * (rd left 2 * 256 + rd left 3)).toNat) h
            generalize openT ((left.drop 4).drop (4 * (rd left 2 * 256 + rd left 3)).toNat) H.1 (rd left 0 * 256 + rd left 1) ((left.drop 4).take (4 * (rd left 2 * 256 + rd left 3)).toNat) = o at e1 e2 e3 e4 e5 e6 e7 e8 ⊢
            have hx : o.1.ex.length = (4 * (rd left 2 * 256 + rd left 3)).toNat := by rw [e2, List.length_take, List.length_drop]; omega
            rw [List.length_drop, List.length_drop] at e8
            have kk := key o.1 (by rw [e1]; exact e6) (by rw [e1]; exact e7) e4
            rw [if_pos (by rw [e1]; exact c2), e1] at kk
            refine ⟨⟨by rw [e1]; exact hf.1, by omega, by omega, e4, e5, by rw [e1]; exact e6⟩, ?_⟩
            omega
      · rw [if_neg c2] at h ⊢
        obtain ⟨e1, e2, e3, e4, e5, e6, e7, e8⟩ := openT_fit hbl H.1 0 [] h
        generalize openT left H.1 0 [] = o at e1 e2 e3 e4 e5 e6 e7 e8 ⊢
        have kk := key o.1 (by rw [e1]; exact e6) (by rw [e1]; exact e7) e4
        rw [if_neg (by rw [e1]; exact c2), e1] at kk
        refine ⟨⟨by rw [e1]; exact hf.1, by rw [e2]; decide, by omega, e4, e5, by rw [e1]; exact e6⟩, ?_⟩
        omega
theorem of_ev {l : List Int} (hb : Byt l) : Ev (fun k => place_Of.f k l) (ofM l) := by
  simp only [place_Of.f]
  refine Ev.bind (read_ev hb) ?_
  unfold ofM
  by_cases c : (openM l).2.2 = 0
  · obtain ⟨hf, _⟩ := open_fit hb c
    rw [if_pos c]
    generalize openM l = o at c hf
    dsimp only [pflat]
    simp only [if_pos c]
    have z : ∀ (x : List (Int × Int)) f s, Pos x → tot x ≤ 1000000 → -1000000 ≤ s → s ≤ 1000000 → Ev (fun k => place_lay.f k (mk 0 x) f [s]) (mk 0 (x ++ one f s)) := fun x f s hp ht h0 h1 => lay_ev hp ht f s h0 h1
    refine Ev.bind (z [] 1 1 (by intro q hq; cases hq) (by decide) (by omega) (by omega)) ?_
    refine Ev.bind (z [(1, 1)] 2 1 (by unfold Pos; simp) (by decide) (by omega) (by omega)) ?_
    refine Ev.bind (z [(1, 1), (2, 1)] 3 2 (by unfold Pos; simp) (by decide) (by omega) (by omega)) ?_
    refine Ev.bind (z [(1, 1), (2, 1), (3, 2)] 4 4 (by unfold Pos; simp) (by decide) (by omega) (by omega)) ?_
    refine Ev.bind (z [(1, 1), (2, 1), (3, 2), (4, 4)] 5 4 (by unfold Pos; simp) (by decide) (by omega) (by omega)) ?_
    exact of_l0 o.1 hf o.1.h.csrc.length 0 (by omega)
  · rw [if_neg c]
    generalize openM l = o at c
    refine Ev.eq fun k => ?_
    dsimp only [pflat]
    rw [if_neg c]
end Go.Proofs.Ytcbdgknfkoodoaa.S
namespace Go.Proofs.Ytcbdgknfkoodoaa.S
open Go.RowKit Go.Proofs.YtcbdgknfkoodoaaW.PrintWords Go.Proofs.Ytcbdgknfkoodoaa.F
set_option linter.unusedVariables false
set_option linter.unusedSimpArgs false
theorem cutn_len {l : List Int} {a n : Nat} (h : a + n ≤ l.length) : (cutn l a n).length = n := by simp [cutn]; omega
theorem cutn_byt {l : List Int} (hb : Byt l) (a n : Nat) : Byt (cutn l a n) := (hb.drop a).take n
theorem cutn_rd {l : List Int} {a n i : Nat} (h : a + n ≤ l.length) (hi : i < n) : (cutn l a n).drop i = rd l ((a + i : Nat) : Int) :: (cutn l a n).drop (i + 1) := by
  have hl := cutn_len h
  rw [List.drop_eq_getElem_cons (by omega)]
  congr 1
  rw [rd_eq (by omega) (by omega)]
  simp only [cutn, List.getElem_take, List.getElem_drop, Int.toNat_natCast]
theorem rget_loop {l : List Int} (hb : Byt l) (hl : l.length ≤ 140737488351232) (a n : Nat) (h : a + n ≤ l.length) (h8 : n ≤ 8) : ∀ (d i : Nat) (v : Int), i + d = n → 0 ≤ v → v < ((256 ^ i : Nat) : Int) → Ev (fun k => crossbarref01_Get.l0 k l (a : Int) (n : Int) v (i : Int)) (be v ((cutn l a n).drop i), 0) := by
  have hcl := cutn_len h
  intro d
  induction d with
  | zero =>
    intro i v hi hv hv2
    refine Ev.step (f := fun _ => some (be v ((cutn l a n).drop i), 0)) (fun k => ?_) (Ev.now _)
    simp only [crossbarref01_Get.l0]
    rw [if_neg (by omega), List.drop_of_length_le (by omega)]
    rfl
  | succ d ih =>
    intro i v hi hv hv2
    have hx := brd hb ((a + i : Nat) : Int)
    have hp : 256 ^ i ≤ 72057594037927936 := Nat.le_trans (Nat.pow_le_pow_right (show 0 < 256 by decide) (show i ≤ 7 by omega)) (by decide)
    have hv3 : v < 72057594037927936 := Int.lt_of_lt_of_le hv2 (Int.ofNat_le.2 hp)
    refine Ev.step (f := fun k => crossbarref01_Get.l0 k l (a : Int) (n : Int) (v * 256 + rd l ((a + i : Nat) : Int)) ((i + 1 : Nat) : Int)) (fun k => ?_) ?_
    · conv => lhs; unfold crossbarref01_Get.l0
      rw [if_pos (by omega), w64 (n := (a : Int) + i) (by omega) (by omega), if_pos (by omega), if_pos (by omega), show (a : Int) + (i : Int) = ((a + i : Nat) : Int) by omega, u64w (n := 256 * v) (by omega) (by omega), u64w hx.1 (by omega), u64w (by omega) (by omega), w64 (by omega) (by omega), Int.mul_comm 256 v]
      rfl
    · have := ih (i + 1) (v * 256 + rd l ((a + i : Nat) : Int)) (by omega) (by omega) (by rw [Nat.pow_succ, Int.natCast_mul]; omega)
      rw [cutn_rd h (by omega), be_cons]
      exact this
theorem num_ev {l : List Int} (hb : Byt l) (hl : l.length ≤ 140737488351232) (a n : Nat) (h1 : 1 ≤ n) (h4 : n ≤ 4) (h : a + n ≤ l.length) : Ev (fun k => crossbarref05_Num.f k l (a : Int) (n : Int)) (be 0 (cutn l a n)) := by
  have hr := be_range (y := cutn l a n) (cutn_byt hb a n) 0 (by omega)
  rw [cutn_len h] at hr
  have hp : 256 ^ n ≤ 4294967296 := Nat.le_trans (Nat.pow_le_pow_right (show 0 < 256 by decide) h4) (by decide)
  have hp' : (256 : Int) ^ n ≤ 4294967296 := by
    have := Int.ofNat_le.2 hp
    rwa [Int.natCast_pow] at this
  have e : Ev (fun k => crossbarref01_Get.f k l (a : Int) (n : Int)) (be 0 (cutn l a n), 0) := by
    refine Ev.congr (f := fun k => crossbarref01_Get.j0 k l (a : Int) (n : Int) false) (fun k => ?_) ?_
    · unfold crossbarref01_Get.f
      rw [if_neg (by omega), if_neg (by omega), decide_eq_false (by omega)]
    · refine Ev.step (f := fun k => crossbarref01_Get.j1 k l (a : Int) (n : Int) false) (fun k => ?_) ?_
      · rw [crossbarref01_Get.j0, if_neg (by decide), if_neg (by omega), w64 (by omega) (by omega), decide_eq_false (by omega)]
      · refine Ev.step (f := fun k => crossbarref01_Get.l0 k l (a : Int) (n : Int) 0 ((0 : Nat) : Int)) (fun k => ?_) ?_
        · rw [crossbarref01_Get.j1, if_neg (by decide)]
          rfl
        · have := rget_loop hb hl a n h (by omega) n 0 0 (by omega) (by omega) (by decide)
          rw [List.drop_zero] at this
          exact this
  refine Ev.congr (f := fun k => (crossbarref01_Get.f k l (a : Int) (n : Int)).bind fun b => some (b.1 % 4294967296)) (fun k => by unfold crossbarref05_Num.f; rfl) (Ev.bind e (f := fun _ b => some (b.1 % 4294967296)) ?_)
  refine Ev.eq fun k => ?_
  dsimp only
  rw [Int.emod_eq_of_lt hr.1 (by omega)]
theorem be2 {l : List Int} (a : Nat) (h : a + 2 ≤ l.length) : be 0 (cutn l a 2) = rd l (a : Int) * 256 + rd l ((a + 1 : Nat) : Int) := by
  have e0 := cutn_rd (l := l) (a := a) (n := 2) (i := 0) h (by omega)
  have e1 := cutn_rd (l := l) (a := a) (n := 2) (i := 1) h (by omega)
  rw [List.drop_zero] at e0
  rw [e0, e1, be_cons, be_cons, List.drop_of_length_le (by rw [cutn_len h]; omega), be_nil]
  simp
theorem rhead_loop {l : List Int} (hb : Byt l) (hl : l.length ≤ 140737488351232) {n : Nat} (hn : n ≤ 15) (h : 12 + 4 * n ≤ l.length) (p e m : Bool) (ty sq tm ss : Int) :
    ∀ (d i : Nat), i + d = n → Ev (fun k => crossbarref05_Read.l0 k l (n : Int) (i : Int) p e m ty sq tm ss (words l 12 i)) (p, e, m, ty, sq, tm, ss, words l 12 n, 12 + 4 * (n : Int), 0) := by
  intro d
  induction d with
  | zero =>
    intro i hi
    obtain rfl : i = n := by omega
    refine Ev.step (f := fun _ => some (p, e, m, ty, sq, tm, ss, words l 12 i, 12 + 4 * (i : Int), 0)) (fun k => ?_) (Ev.now _)
    simp only [crossbarref05_Read.l0]
    rw [if_neg (by omega), w64 (n := 4 * (i : Int)) (by omega) (by omega), w64 (by omega) (by omega)]
  | succ d ih =>
    intro i hi
    refine Ev.step (f := fun k => (crossbarref05_Num.f k l ((12 + 4 * i : Nat) : Int) ((4 : Nat) : Int)).bind fun t => if (words l 12 i).length < 35184372088832 then crossbarref05_Read.l0 k l (n : Int) ((i + 1 : Nat) : Int) p e m ty sq tm ss (words l 12 i ++ [t]) else none) (fun k => ?_) ?_
    · conv => lhs; unfold crossbarref05_Read.l0
      rw [if_pos (by omega), w64 (n := 4 * (i : Int)) (by omega) (by omega), w64 (n := 12 + _) (by omega) (by omega), w64 (n := (i : Int) + 1) (by omega) (by omega)]
      rfl
    · refine Ev.bind (num_ev hb hl (12 + 4 * i) 4 (by omega) (by omega) (by omega)) ?_
      refine Ev.congr (f := fun k => crossbarref05_Read.l0 k l (n : Int) ((i + 1 : Nat) : Int) p e m ty sq tm ss (words l 12 (i + 1))) (fun k => ?_) (ih (i + 1) (by omega))
      rw [if_pos (by simp [words]; omega)]
      congr 1
      simp [words, List.range_succ, w32]
theorem tdm {x : Int} (h0 : 0 ≤ x) (h1 : x ≤ 255) (n : Int) (hn : 1 ≤ n) : Int.tdiv x n % 256 = x / n ∧ Int.tmod x n = x % n := by
  have e : Int.tdiv x n = x / n := Int.tdiv_eq_ediv_of_nonneg h0
  have e0 : 0 ≤ x / n := Int.ediv_nonneg h0 (by omega)
  have e1 : x / n ≤ x := Int.ediv_le_self _ h0
  exact ⟨by rw [e, Int.emod_eq_of_lt e0 (by omega)], Int.tmod_eq_emod_of_nonneg h0⟩
theorem rhead_ev {l : List Int} (hb : Byt l) (hl : l.length ≤ 140737488351232) : Ev (fun k => crossbarref05_Read.f k l) (hflat (headM l)) := by
  have h0 := brd hb 0
  have h1 := brd hb 1
  have h2 := brd hb 2
  have h3 := brd hb 3
  by_cases c1 : l.length < 12
  · refine Ev.eq fun k => ?_
    simp only [crossbarref05_Read.f, headM, if_pos c1, if_pos (show (l.length : Int) < 12 by omega)]
    rfl
  · by_cases c2 : rd l 0 / 64 = 2
    · by_cases c3 : (l.length : Int) < 12 + 4 * (rd l 0 % 16)
      · refine Ev.eq fun k => ?_
        simp only [crossbarref05_Read.f, headM, if_neg c1, if_pos c3]
        rw [if_neg (by omega), if_pos (by omega), (tdm h0.1 h0.2 64 (by omega)).1, if_pos c2, (tdm h0.1 h0.2 16 (by omega)).2, w64 (n := rd l 0 % 16) (by omega) (by omega), w64 (n := 4 * _) (by omega) (by omega), w64 (by omega) (by omega), if_pos c3, if_neg (by simpa using c2)]
        rfl
      · have hn : ((rd l 0 % 16).toNat : Int) = rd l 0 % 16 := by omega
        have b2 := be2 (l := l) 2 (by omega)
        refine Ev.congr (f := fun k => (crossbarref05_Num.f k l ((2 : Nat) : Int) ((2 : Nat) : Int)).bind fun s => (crossbarref05_Num.f k l ((4 : Nat) : Int) ((4 : Nat) : Int)).bind fun t => (crossbarref05_Num.f k l ((8 : Nat) : Int) ((4 : Nat) : Int)).bind fun u => crossbarref05_Read.l0 k l ((rd l 0 % 16).toNat : Int) ((0 : Nat) : Int) (decide (rd l 0 / 32 % 2 = 1)) (decide (rd l 0 / 16 % 2 = 1)) (decide (128 ≤ rd l 1)) (rd l 1 % 128) (IntKind.u16.wrap s) t u (words l 12 0)) (fun k => ?_) ?_
        · simp only [crossbarref05_Read.f]
          rw [if_neg (by omega), if_pos (by omega), (tdm h0.1 h0.2 64 (by omega)).1, if_pos c2, (tdm h0.1 h0.2 16 (by omega)).2, w64 (n := rd l 0 % 16) (by omega) (by omega), w64 (n := 4 * _) (by omega) (by omega), w64 (n := 12 + _) (by omega) (by omega), if_neg c3, if_pos (by omega), (tdm h0.1 h0.2 32 (by omega)).1, (tdm h0.1 h0.2 16 (by omega)).1, (tdm h1.1 h1.2 128 (by omega)).2, w64 (n := rd l 1 % 128) (by omega) (by omega), hn]
          rfl
        · refine Ev.bind (num_ev hb hl 2 2 (by omega) (by omega) (by omega)) (Ev.bind (num_ev hb hl 4 4 (by omega) (by omega) (by omega)) (Ev.bind (num_ev hb hl 8 4 (by omega) (by omega) (by omega)) ?_))
          have := rhead_loop hb hl (n := (rd l 0 % 16).toNat) (by omega) (by omega) (decide (rd l 0 / 32 % 2 = 1)) (decide (rd l 0 / 16 % 2 = 1)) (decide (128 ≤ rd l 1)) (rd l 1 % 128) (IntKind.u16.wrap (be 0 (cutn l 2 2))) (be 0 (cutn l 4 4)) (be 0 (cutn l 8 4)) (rd l 0 % 16).toNat 0 (by omega)
          have e : hflat (headM l) = (decide (rd l 0 / 32 % 2 = 1), decide (rd l 0 / 16 % 2 = 1), decide (128 ≤ rd l 1), rd l 1 % 128, IntKind.u16.wrap (be 0 (cutn l 2 2)), be 0 (cutn l 4 4), be 0 (cutn l 8 4), words l 12 (rd l 0 % 16).toNat, 12 + 4 * ((rd l 0 % 16).toNat : Int), 0) := by
            rw [b2, hn]
            rw [show ((2 : Nat) : Int) = 2 from rfl, show ((2 + 1 : Nat) : Int) = 3 from rfl, u16w (by omega) (by omega)]
            simp only [headM, if_neg c1, if_neg c3, if_neg (show ¬ (rd l 0 / 64 ≠ 2) by simpa using c2)]
            rfl
          rw [e]
          exact this
    · refine Ev.eq fun k => ?_
      simp only [crossbarref05_Read.f, headM, if_neg c1]
      rw [if_neg (by omega), if_pos (by omega), (tdm h0.1 h0.2 64 (by omega)).1, if_neg c2, if_pos (by simpa using c2)]
      rfl
theorem rtrail_eq {l : List Int} (hb : Byt l) (hl : l.length ≤ 140737488351232) : crossbarref03_Trail.f l = some (trailM l) := by
  have hr := brd hb ((l.length : Int) - 1)
  unfold crossbarref03_Trail.f trailM
  by_cases c : l.length = 0
  · rw [if_pos (by omega), if_pos c]
  · rw [if_neg (by omega), w64 (n := (l.length : Int) - 1) (by omega) (by omega), if_pos (by omega), if_pos (by omega), w64 (by omega) (by omega), if_neg c]
    by_cases c2 : (l.length : Int) < rd l ((l.length : Int) - 1)
    · rw [if_pos c2, if_pos (show _ ∨ (l.length : Int) < rd l ((l.length : Int) - 1) from .inr c2)]
    · rw [if_neg c2]
      by_cases c1 : rd l ((l.length : Int) - 1) < 1
      · rw [if_pos (show rd l ((l.length : Int) - 1) < 1 ∨ _ from .inl c1)]
        congr 1
        omega
      · rw [if_neg (by omega)]
theorem ropenT_ev {l : List Int} (hb : Byt l) (hl : l.length ≤ 140737488351232) (a : Nat) (ha : a ≤ l.length) (h : Hd) (prof : Int) (ex : List Int) :
    Ev (fun k => crossbarref06_Read.j0 k l (a : Int) h.pad h.ext h.mark h.typ h.seq h.tm h.ssrc h.csrc h.pad h.ext h.mark h.typ h.seq h.tm h.ssrc h.csrc prof ex 0) (pflat (openT (l.drop a) h prof ex)) := by
  have hbl := hb.drop a
  have hll : (l.drop a).length = l.length - a := List.length_drop
  unfold openT
  by_cases c : h.pad = true
  · rw [if_pos c]
    by_cases c2 : trailM (l.drop a) = 0
    · rw [if_pos c2]
      refine Ev.step (f := fun _ => some (pflat (.zero, [], 5))) (fun k => ?_) (Ev.now _)
      rw [crossbarref06_Read.j0]
      rw [if_pos c, if_pos (by omega), if_pos (by omega), Int.toNat_natCast, rtrail_eq hbl (by omega)]
      simp only [ob]
      rw [if_pos c2]
      rfl
    · have ht := trailM_le (l.drop a) c2
      rw [if_neg c2]
      refine Ev.step (f := fun _ => some (h.pad, h.ext, h.mark, h.typ, h.seq, h.tm, h.ssrc, h.csrc, prof, ex, (l.drop a).take ((l.drop a).length - (trailM (l.drop a)).toNat), trailM (l.drop a), 0)) (fun k => ?_) (Ev.now _)
      rw [crossbarref06_Read.j0]
      rw [if_pos c, if_pos (by omega), if_pos (by omega), Int.toNat_natCast, rtrail_eq hbl (by omega)]
      simp only [ob]
      rw [if_neg c2, w64 (by omega) (by omega), if_pos (by omega), if_pos (by omega)]
      have hs : (List.take ((l.length : Int) - trailM (l.drop a)).toNat l).drop a = (l.drop a).take ((l.drop a).length - (trailM (l.drop a)).toNat) := by
        rw [List.drop_take]; congr 1; omega
      rw [hs, if_pos (by rw [List.length_take]; simp only [List.length_nil]; omega), List.nil_append]
  · rw [if_neg c]
    refine Ev.step (f := fun _ => some (h.pad, h.ext, h.mark, h.typ, h.seq, h.tm, h.ssrc, h.csrc, prof, ex, l.drop a, 0, 0)) (fun k => ?_) (Ev.now _)
    rw [crossbarref06_Read.j0]
    rw [if_neg c]
    simp only [ob]
    rw [if_pos (by omega), Int.sub_zero, w64 (by omega) (by omega), if_pos (by omega), if_pos (by omega), Int.toNat_natCast, Int.toNat_natCast, List.take_length, if_pos (by simp only [List.length_nil]; omega), List.nil_append]
theorem rread_ev {l : List Int} (hb : Byt l) : Ev (fun k => crossbarref06_Read.f k l) (pflat (openM l)) := by
  by_cases c : 65535 < l.length
  · refine Ev.eq fun k => ?_
    unfold crossbarref06_Read.f openM
    rw [if_pos (by omega), if_pos c]
    rfl
  · have hl : l.length ≤ 140737488351232 := by omega
    simp only [crossbarref06_Read.f]
    refine Ev.neg (by omega) (Ev.bind (rhead_ev hb hl) ?_)
    unfold openM
    rw [if_neg c]
    by_cases c1 : (headM l).2.2 = 0
    · have hr := head_fit hb c1
      rw [if_neg (show ¬ ((headM l).2.2 ≠ 0) by simpa using c1)]
      generalize headM l = H at c1 hr
      obtain ⟨a, ha⟩ : ∃ a : Nat, H.2.1 = a := ⟨H.2.1.toNat, by omega⟩
      rw [ha] at hr
      dsimp only [hflat]
      refine Ev.pos c1 ?_
      rw [ha]
      simp only [Int.toNat_natCast]
      by_cases c2 : H.1.ext = true
      · refine Ev.pos c2 ?_
        rw [if_pos c2]
        have hbl := hb.drop a
        have hll : (l.drop a).length = l.length - a := List.length_drop
        unfold openE
        have d2 : ∀ i : Nat, a + i < l.length → rd (l.drop a) (i : Int) = rd l ((a + i : Nat) : Int) := by
          intro i hi
          rw [rd_nat, rd_nat]
          simp [List.getD_eq_getElem?_getD]
        by_cases c3 : (l.drop a).length < 4
        · rw [if_pos c3]
          exact Ev.pos (by rw [w64 (by omega) (by omega)]; omega) (Ev.now _)
        · rw [if_neg c3]
          refine Ev.neg (by rw [w64 (by omega) (by omega)]; omega) ?_
          have n2 := num_ev hb hl (a + 2) 2 (by omega) (by omega) (by omega)
          have n0 := num_ev hb hl a 2 (by omega) (by omega) (by omega)
          rw [be2 _ (by omega)] at n2 n0
          have q0 := d2 0 (by omega)
          have q1 := d2 1 (by omega)
          have q2 := d2 2 (by omega)
          have q3 := d2 3 (by omega)
          have g0 : rd (l.drop a) 0 = rd l (a : Int) := q0
          have g1 : rd (l.drop a) 1 = rd l ((a + 1 : Nat) : Int) := q1
          have g2 : rd (l.drop a) 2 = rd l ((a + 2 : Nat) : Int) := q2
          have g3 : rd (l.drop a) 3 = rd l ((a + 2 + 1 : Nat) : Int) := q3
          rw [← g2, ← g3] at n2
          rw [← g0, ← g1] at n0
          have r0 := brd hbl 0
          have r1 := brd hbl 1
          have r2 := brd hbl 2
          have r3 := brd hbl 3
          generalize hu : rd (l.drop a) 0 * 256 + rd (l.drop a) 1 = u at n0
          generalize hsz : rd (l.drop a) 2 * 256 + rd (l.drop a) 3 = sz at n2
          have n2' : Ev (fun k => crossbarref05_Num.f k l ((a : Int) + 2) 2) sz := n2
          have n0' : Ev (fun k => crossbarref05_Num.f k l (a : Int) 2) u := n0
          rw [w64 (n := (a : Int) + 2) (by omega) (by omega)]
          refine Ev.bind n2' ?_
          rw [w64 (n := (l.length : Int) - a) (by omega) (by omega), w64 (n := (l.length : Int) - a - 4) (by omega) (by omega), w64 (n := sz) (by omega) (by omega), w64 (n := 4 * sz) (by omega) (by omega)]
          by_cases c4 : (l.length : Int) - a - 4 < 4 * sz
          · rw [if_pos (show ((l.drop a).length : Int) - 4 < 4 * sz by omega)]
            exact Ev.pos c4 (Ev.now _)
          · rw [if_neg (show ¬ (((l.drop a).length : Int) - 4 < 4 * sz) by omega)]
            refine Ev.neg c4 (Ev.bind n0' ?_)
            simp only [ob]
            rw [w64 (n := (a : Int) + 4) (by omega) (by omega), w64 (n := (a : Int) + 4 + 4 * sz) (by omega) (by omega), u16w (n := u) (by omega) (by omega)]
            obtain ⟨m, hm⟩ : ∃ m : Nat, 4 * sz = m := ⟨(4 * sz).toNat, by omega⟩
            rw [hm] at c4 ⊢
            have e1 : (l.take ((a : Int) + 4 + m).toNat).drop ((a : Int) + 4).toNat = ((l.drop a).drop 4).take m := by
              rw [List.drop_take, List.drop_drop]
              congr 1
              omega
            have e2 : ((l.drop a).drop 4).drop m = l.drop (a + 4 + m) := by rw [List.drop_drop, List.drop_drop, Nat.add_assoc]
            rw [Int.toNat_natCast, e1, e2, List.nil_append]
            refine Ev.pos (by omega) (Ev.pos (by omega) (Ev.pos (by omega) (Ev.pos (by rw [List.length_take, List.length_drop]; simp only [List.length_nil]; omega) ?_)))
            exact ropenT_ev hb hl (a + 4 + m) (by omega) H.1 u _
      · refine Ev.neg c2 ?_
        rw [if_neg c2]
        exact ropenT_ev hb hl a (by omega) H.1 0 []
    · rw [if_pos (show (headM l).2.2 ≠ 0 from c1)]
      generalize headM l = H at c1
      dsimp only [hflat]
      exact Ev.neg c1 (Ev.now _)
end Go.Proofs.Ytcbdgknfkoodoaa.S
namespace Go.Proofs.Ytcbdgknfkoodoaa.S
open Go.RowKit Go.Proofs.YtcbdgknfkoodoaaW.PrintWords Go.Proofs.Ytcbdgknfkoodoaa.F
set_option linter.unusedVariables false
set_option linter.unusedSimpArgs false
theorem mk_snoc (x : List (Int × Int)) (f s : Int) : mk 0 x ++ [(⟨f, tot x, s⟩ : S32)] = mk 0 (x ++ [(f, s)]) := by
  rw [mk_append]
  simp [mk]
theorem pos_snoc {x : List (Int × Int)} (h : Pos x) (f s : Int) (hs : 0 < s) : Pos (x ++ [(f, s)]) := pos_append h (fun p hp => by simp at hp; subst hp; exact hs)
theorem tot_snoc (x : List (Int × Int)) (f s : Int) : tot (x ++ [(f, s)]) = tot x + s := by rw [tot_append]; simp [tot]
theorem one_pos {f s : Int} (h : 0 < s) : one f s = [(f, s)] := if_pos h
theorem one_neg {f s : Int} (h : ¬ 0 < s) : one f s = [] := if_neg h
theorem rof_j2 {l : List Int} {x : List (Int × Int)} (hp : Pos x) (ht : tot x ≤ 500000) (p : Pk) (hf : Fit p) (hz : p.h.pad = false → p.padn = 0) (hl : tot (x ++ (if p.h.pad = true then one 11 (p.padn - 1) ++ one 12 1 else [])) = l.length) :
    Ev (fun k => crossbarref07_Of.j2 k l (mk 0 x) (tot x) p.h.pad p.h.ext p.h.mark p.h.typ p.h.seq p.h.tm p.h.ssrc p.h.csrc p.prof p.ex p.pl p.padn) (mk 0 (x ++ (if p.h.pad = true then one 11 (p.padn - 1) ++ one 12 1 else [])), 0) := by
  obtain ⟨h1, h2, h3, h4, h5, h6⟩ := hf
  have hg := tot_ge hp
  have hlen := mk_length x 0
  refine Ev.step (fun k => by rw [crossbarref07_Of.j2]) ?_
  by_cases c : p.h.pad = true
  · have h6 := h6 c
    rw [if_pos c] at hl ⊢
    by_cases c1 : p.padn > 1
    · rw [one_pos (by omega), one_pos (by omega)] at hl ⊢
      refine Ev.pos c1 (Ev.pos (by omega) ?_)
      rw [w64 (n := p.padn - 1) (by omega) (by omega), mk_snoc]
      simp only [ob]
      refine Ev.pos (by omega) (Ev.pos (by rw [mk_length, List.length_append]; simp only [List.length_singleton]; omega) ?_)
      rw [← List.append_assoc, tot_snoc] at hl
      have t1 := tot_snoc x 11 (p.padn - 1)
      rw [w64 (by omega) (by omega), show (l.length : Int) - 1 = tot (x ++ [(11, p.padn - 1)]) by omega, mk_snoc, List.append_assoc]
      exact Ev.now _
    · rw [one_neg (by omega), List.nil_append, one_pos (by omega), tot_snoc] at hl
      rw [one_neg (by omega), List.nil_append, one_pos (by omega)]
      refine Ev.neg c1 (Ev.pos (by omega) (Ev.pos (by omega) ?_))
      rw [w64 (by omega) (by omega), show (l.length : Int) - 1 = tot x by omega, mk_snoc]
      exact Ev.now _
  · have hz := hz (by simpa using c)
    rw [if_neg c, List.append_nil]
    exact Ev.neg (by omega) (Ev.neg (by omega) (Ev.now _))
theorem rof_j1 {l : List Int} {x : List (Int × Int)} (hp : Pos x) (ht : tot x ≤ 400000) (p : Pk) (hf : Fit p) (hz : p.h.pad = false → p.padn = 0) (hl : tot (x ++ segP p) = l.length) :
    Ev (fun k => crossbarref07_Of.j1 k l (mk 0 x) (tot x) p.h.pad p.h.ext p.h.mark p.h.typ p.h.seq p.h.tm p.h.ssrc p.h.csrc p.prof p.ex p.pl p.padn) (mk 0 (x ++ segP p), 0) := by
  obtain ⟨h1, h2, h3, h4, h5, h6⟩ := hf
  have hg := tot_ge hp
  have hlen := mk_length x 0
  unfold segP at hl ⊢
  refine Ev.step (fun k => by rw [crossbarref07_Of.j1]) ?_
  by_cases c : (p.pl.length : Int) > 0
  · rw [one_pos (by omega), ← List.append_assoc] at hl ⊢
    refine Ev.pos c (Ev.pos (by omega) ?_)
    rw [mk_snoc, w64 (by omega) (by omega), ← tot_snoc x 10]
    exact rof_j2 (pos_snoc hp _ _ (by omega)) (by rw [tot_snoc]; omega) p ⟨h1, h2, h3, h4, h5, h6⟩ hz hl
  · rw [one_neg (by omega), List.nil_append] at hl ⊢
    exact Ev.neg c (rof_j2 hp (by omega) p ⟨h1, h2, h3, h4, h5, h6⟩ hz hl)
theorem rof_l0 {l : List Int} (p : Pk) (hf : Fit p) (hz : p.h.pad = false → p.padn = 0) (hl : tot (segs p) = l.length) : ∀ (d i : Nat), i + d = p.h.csrc.length → Ev (fun k => crossbarref07_Of.l0 k l (mk 0 (seg0 ++ segC i)) (12 + 4 * (i : Int)) (i : Int) p.h.pad p.h.ext p.h.mark p.h.typ p.h.seq p.h.tm p.h.ssrc p.h.csrc p.prof p.ex p.pl p.padn) (mk 0 (segs p), 0) := by
  intro d
  have hf0 := hf
  obtain ⟨h1, h2, h3, h4, h5, h6⟩ := hf
  have tt : ∀ i, tot (seg0 ++ segC i) = 12 + 4 * i := fun i => by rw [tot_append, tot_C]; rfl
  have pp : ∀ i, Pos (seg0 ++ segC i) := fun i => pos_append pos_0 (pos_C i)
  have ll : ∀ i, ((mk 0 (seg0 ++ segC i)).length : Int) ≤ 12 + 4 * i := fun i => by rw [mk_length, ← tt i]; exact tot_ge (pp i)
  induction d with
  | zero =>
    intro i hi
    obtain rfl : i = p.h.csrc.length := by omega
    have t3 := tt p.h.csrc.length
    have l3 := ll p.h.csrc.length
    unfold segs segX at hl ⊢
    refine Ev.step (fun k => by rw [crossbarref07_Of.l0]) (Ev.neg (by omega) ?_)
    generalize hx : seg0 ++ segC p.h.csrc.length = x at t3 l3 hl ⊢
    have hpx : Pos x := hx ▸ pp _
    by_cases c : p.h.ext = true
    · refine Ev.pos c ?_
      simp only [ob]
      rw [if_pos c] at hl ⊢
      rw [one_pos (show (0 : Int) < 2 by omega), one_pos (show (0 : Int) < 2 by omega)] at hl ⊢
      have e2 : mk 0 x ++ [(⟨7, 12 + 4 * (p.h.csrc.length : Int), 2⟩ : S32), (⟨8, wrap64 (12 + 4 * (p.h.csrc.length : Int) + 2), 2⟩ : S32)] = mk 0 (x ++ ([(7, 2)] ++ [(8, 2)])) := by
        rw [← List.append_assoc, ← mk_snoc, ← mk_snoc, tot_snoc, t3, w64 (by omega) (by omega), List.append_assoc]
        rfl
      have t4 : tot (x ++ ([(7, 2)] ++ [(8, 2)])) = 12 + 4 * (p.h.csrc.length : Int) + 4 := by rw [← List.append_assoc, tot_snoc, tot_snoc, t3]; omega
      have p4 : Pos (x ++ ([(7, 2)] ++ [(8, 2)])) := by rw [← List.append_assoc]; exact pos_snoc (pos_snoc hpx _ _ (by omega)) _ _ (by omega)
      have g4 := tot_ge p4
      have m4 := mk_length (x ++ ([(7, 2)] ++ [(8, 2)])) 0
      refine Ev.pos (by simp only [List.length_cons, List.length_nil]; omega) ?_
      rw [e2, w64 (n := 12 + 4 * (p.h.csrc.length : Int) + 4) (by omega) (by omega), ← t4]
      have ea : ∀ z : List (Int × Int), x ++ ([(7, 2)] ++ [(8, 2)] ++ z) = (x ++ ([(7, 2)] ++ [(8, 2)])) ++ z := fun z => by simp
      rw [ea] at hl ⊢
      generalize x ++ ([(7, 2)] ++ [(8, 2)]) = y at t4 p4 g4 m4 hl ⊢
      by_cases c3 : (p.ex.length : Int) > 0
      · rw [one_pos (by omega)] at hl ⊢
        refine Ev.pos c3 (Ev.pos (by omega) ?_)
        rw [mk_snoc, w64 (by omega) (by omega), ← tot_snoc y 9]
        exact rof_j1 (pos_snoc p4 _ _ (by omega)) (by rw [tot_snoc]; omega) p hf0 hz hl
      · rw [one_neg (by omega), List.append_nil] at hl ⊢
        exact Ev.neg c3 (rof_j1 p4 (by omega) p hf0 hz hl)
    · rw [if_neg c, List.append_nil] at hl ⊢
      refine Ev.neg c ?_
      rw [← t3]
      exact rof_j1 hpx (by omega) p hf0 hz hl
  | succ d ih =>
    intro i hi
    have t3 := tt i
    have l3 := ll i
    refine Ev.step (fun k => by rw [crossbarref07_Of.l0]) (Ev.pos (by omega) (Ev.pos (by omega) ?_))
    rw [w64 (by omega) (by omega), w64 (by omega) (by omega)]
    have := ih (i + 1) (by omega)
    have e : mk 0 (seg0 ++ segC i) ++ [(⟨6, 12 + 4 * (i : Int), 4⟩ : S32)] = mk 0 (seg0 ++ segC (i + 1)) := by
      rw [← t3, mk_snoc, List.append_assoc]; congr 2; unfold segC; rw [List.replicate_succ']
    rw [e]
    rw [show (12 : Int) + 4 * (i : Int) + 4 = 12 + 4 * ((i + 1 : Nat) : Int) by omega]
    exact this
theorem open_pad0 {l : List Int} (hb : Byt l) (h : (openM l).2.2 = 0) : (openM l).1.h.pad = false → (openM l).1.padn = 0 := by
  have key : ∀ (left : List Int) (hd : Hd) (prof : Int) (ex : List Int), (openT left hd prof ex).2.2 = 0 → (openT left hd prof ex).1.h.pad = false → (openT left hd prof ex).1.padn = 0 := by
    intro left hd prof ex h0 h1
    unfold openT at h0 h1 ⊢
    by_cases c : hd.pad = true
    · rw [if_pos c] at h0 h1 ⊢
      by_cases c2 : trailM left = 0
      · rw [if_pos c2]; rfl
      · rw [if_neg c2] at h1
        rw [show hd.pad = false from h1] at c
        exact absurd c (by decide)
    · rw [if_neg c]
  unfold openM at h ⊢
  by_cases c : 65535 < l.length
  · rw [if_pos c]; intro _; rfl
  · rw [if_neg c] at h ⊢
    by_cases c1 : (headM l).2.2 ≠ 0
    · rw [if_pos c1]; intro _; rfl
    · rw [if_neg c1] at h ⊢
      by_cases c2 : (headM l).1.ext = true
      · rw [if_pos c2] at h ⊢
        unfold openE at h ⊢
        split at h
        · exact absurd h (by decide)
        · split at h
          · exact absurd h (by decide)
          · rename_i c3 c4
            rw [if_neg c3, if_neg c4]
            exact key _ _ _ _ h
      · rw [if_neg c2] at h ⊢
        exact key _ _ _ _ h
theorem rof_ev {l : List Int} (hb : Byt l) : Ev (fun k => crossbarref07_Of.f k l) (ofM l) := by
  simp only [crossbarref07_Of.f]
  refine Ev.bind (rread_ev hb) ?_
  unfold ofM
  by_cases c : (openM l).2.2 = 0
  · obtain ⟨hf, ht⟩ := open_fit hb c
    have hz := open_pad0 hb c
    rw [if_pos c]
    generalize openM l = o at c hf ht hz
    dsimp only [pflat]
    exact Ev.pos c (rof_l0 o.1 hf hz ht o.1.h.csrc.length 0 (by omega))
  · rw [if_neg c]
    generalize openM l = o at c
    dsimp only [pflat]
    exact Ev.neg c (Ev.now _)
theorem rsame_loop (l : List S32) (hl : l.length ≤ 140737488351232) : ∀ (d i : Nat), i + d = l.length → Ev (fun k => crossbarref07_Same.l0 k l l (i : Int)) true := by
  intro d
  induction d with
  | zero =>
    intro i hi
    exact Ev.step (fun k => by rw [crossbarref07_Same.l0]) (Ev.neg (by omega) (Ev.now _))
  | succ d ih =>
    intro i hi
    refine Ev.step (fun k => by rw [crossbarref07_Same.l0]) (Ev.pos (by omega) (Ev.pos (by omega) (Ev.pos (by omega) (Ev.neg (by simp) ?_))))
    rw [w64 (by omega) (by omega)]
    exact ih (i + 1) (by omega)
theorem rsame_refl (l : List S32) (hl : l.length ≤ 140737488351232) : Ev (fun k => crossbarref07_Same.f k l l) true :=
  Ev.congr (fun k => by rw [crossbarref07_Same.f, if_pos rfl]; rfl) (rsame_loop l hl l.length 0 (by omega))
def lookM (l : List S32) (f n : Int) : Int × Int × Int × Int :=
  match (l.filter fun p => p.f0 == f)[n.toNat]? with
  | some p => (p.f0, p.f1, p.f2, 0)
  | none => (0, 0, 0, 8)
theorem rdT_drop {l : List S32} {i : Nat} (h : i < l.length) : l.drop i = rd_T32 l (i : Int) :: l.drop (i + 1) := by
  rw [List.drop_eq_getElem_cons h]
  congr 1
  simp [rd_T32, h]
theorem find_loop (l : List S32) (hl : l.length ≤ 1000) (f : Int) : ∀ (d i : Nat) (n : Int), i + d = l.length → 0 ≤ n → n ≤ 9223372036854775807 → Ev (fun k => place_Find.l0 k f n l (l.length : Int) (i : Int)) (lookM (l.drop i) f n) := by
  intro d
  induction d with
  | zero =>
    intro i n hi h0 h1
    refine Ev.step (fun k => by rw [place_Find.l0]) (Ev.neg (by omega) ?_)
    rw [List.drop_of_length_le (by omega)]
    exact Ev.now _
  | succ d ih =>
    intro i n hi h0 h1
    rw [rdT_drop (show i < l.length by omega)]
    refine Ev.step (fun k => by rw [place_Find.l0]) (Ev.pos (by omega) (Ev.pos (by omega) (Ev.pos (by omega) ?_)))
    rw [w64 (n := (i : Int) + 1) (by omega) (by omega)]
    by_cases c : (rd_T32 l (i : Int)).f0 = f
    · refine Ev.pos c ?_
      by_cases c2 : n = 0
      · refine Ev.pos c2 ?_
        subst c2
        unfold lookM
        rw [List.filter_cons_of_pos (by simpa using c)]
        exact Ev.now _
      · refine Ev.neg c2 ?_
        rw [w64 (by omega) (by omega)]
        have e : lookM (rd_T32 l (i : Int) :: l.drop (i + 1)) f n = lookM (l.drop (i + 1)) f (n - 1) := by
          unfold lookM
          rw [List.filter_cons_of_pos (by simpa using c), show n.toNat = (n - 1).toNat + 1 by omega, List.getElem?_cons_succ]
        rw [e]
        exact ih (i + 1) (n - 1) (by omega) (by omega) (by omega)
    · refine Ev.neg c ?_
      have e : lookM (rd_T32 l (i : Int) :: l.drop (i + 1)) f n = lookM (l.drop (i + 1)) f n := by
        unfold lookM
        rw [List.filter_cons_of_neg (by simpa using c)]
      rw [e]
      exact ih (i + 1) n (by omega) h0 h1
def findM (l : List S32) (f n : Int) : Int × Int × Int × Int := if n < 0 then (0, 0, 0, 8) else lookM l f n
theorem find_ev (l : List S32) (hl : l.length ≤ 1000) (f n : Int) (hn : n ≤ 9223372036854775807) : Ev (fun k => place_Find.f k l f n) (findM l f n) := by
  unfold findM
  by_cases c : n < 0
  · rw [if_pos c]
    exact Ev.congr (fun k => by rw [place_Find.f, if_pos c]) (Ev.now _)
  · rw [if_neg c]
    refine Ev.congr (fun k => by rw [place_Find.f, if_neg c]) ?_
    exact find_loop l hl f l.length 0 n (by omega) (by omega) hn
theorem rfind_loop (l : List S32) (hl : l.length ≤ 1000) (f n : Int) (hn : n ≤ 9223372036854775807) : ∀ (d i : Nat), i + d = l.length → Ev (fun k => crossbarref07_Find.l0 k l f n ((l.take i).filter fun p => p.f0 == f) (i : Int)) (findM l f n) := by
  intro d
  induction d with
  | zero =>
    intro i hi
    rw [List.take_of_length_le (by omega)]
    have hfl := List.length_filter_le (fun p : S32 => p.f0 == f) l
    refine Ev.step (fun k => by rw [crossbarref07_Find.l0]) (Ev.neg (by omega) ?_)
    unfold findM
    by_cases c : n < 0
    · refine Ev.pos c ?_
      rw [if_pos c]
      exact Ev.now _
    · refine Ev.neg c ?_
      rw [if_neg c]
      unfold lookM
      generalize l.filter (fun p => p.f0 == f) = z at hfl
      by_cases c2 : n ≥ (z.length : Int)
      · rw [List.getElem?_eq_none (by omega)]
        exact Ev.pos c2 (Ev.now _)
      · refine Ev.neg c2 (Ev.pos (by omega) (Ev.pos (by omega) ?_))
        rw [List.getElem?_eq_getElem (by omega)]
        have e : rd_T32 z n = z[n.toNat]'(by omega) := by
          unfold rd_T32
          rw [List.getD_eq_getElem?_getD, List.getElem?_eq_getElem (by omega)]
          rfl
        rw [e]
        exact Ev.now _
  | succ d ih =>
    intro i hi
    have hfl := List.length_filter_le (fun p : S32 => p.f0 == f) (l.take i)
    rw [List.length_take] at hfl
    have ht : l.take (i + 1) = l.take i ++ [rd_T32 l (i : Int)] := by
      rw [List.take_succ_eq_append_getElem (show i < l.length by omega)]
      congr 2
      simp [rd_T32, show i < l.length by omega]
    have := ih (i + 1) (by omega)
    rw [ht, List.filter_append] at this
    refine Ev.step (fun k => by rw [crossbarref07_Find.l0]) (Ev.pos (by omega) (Ev.pos (by omega) ?_))
    rw [w64 (n := (i : Int) + 1) (by omega) (by omega)]
    by_cases c : (rd_T32 l (i : Int)).f0 = f
    · rw [List.filter_cons_of_pos (by simpa using c), List.filter_nil] at this
      exact Ev.pos c (Ev.pos (by omega) this)
    · rw [List.filter_cons_of_neg (by simpa using c), List.filter_nil, List.append_nil] at this
      exact Ev.neg c this
theorem rfind_ev (l : List S32) (hl : l.length ≤ 1000) (f n : Int) (hn : n ≤ 9223372036854775807) : Ev (fun k => crossbarref07_Find.f k l f n) (findM l f n) :=
  Ev.congr (fun k => by rw [crossbarref07_Find.f]; rfl) (rfind_loop l hl f n hn l.length 0 (by omega))
def I64 (n : Int) : Prop := -9223372036854775808 ≤ n ∧ n ≤ 9223372036854775807
theorem own_iff {a : Int} {p : S32} (ha : I64 a) (h1 : I64 p.f1) (h2 : I64 p.f2) : ownB a p = decide (p.f1 ≤ a ∧ 0 < p.f2 ∧ a - p.f1 < p.f2) := by
  unfold I64 at ha h1 h2
  unfold ownB
  rw [IntKind.wrap_u64, IntKind.wrap_u64, IntKind.wrap_u64, IntKind.wrap_u64, ← Int.sub_emod]
  by_cases c1 : p.f1 ≤ a
  · by_cases c2 : 0 < p.f2
    · rw [Int.emod_eq_of_lt (show 0 ≤ a - p.f1 by omega) (by omega), Int.emod_eq_of_lt (show 0 ≤ p.f2 by omega) (by omega)]
      simp [c1, c2]
    · simp [c2]
  · simp [c1]
theorem rown_loop {l : List S32} (hl : l.length ≤ 1000) {a : Int} (ha : I64 a) (hw : ∀ x ∈ l, I64 x.f1 ∧ I64 x.f2) : ∀ (d i : Nat), i + d = l.length → Ev (fun k => crossbarref07_Owner.l0 k l a (i : Int)) ((((l.drop i).find? (ownB a)).map S32.f0).getD (-1)) := by
  intro d
  induction d with
  | zero =>
    intro i hi
    rw [List.drop_of_length_le (by omega)]
    show Ev (fun k => crossbarref07_Owner.l0 k l a (i : Int)) (-1)
    exact Ev.step (fun k => by rw [crossbarref07_Owner.l0]) (Ev.neg (by omega) (Ev.now _))
  | succ d ih =>
    intro i hi
    have hd := rdT_drop (show i < l.length by omega)
    have hm : rd_T32 l (i : Int) ∈ l := List.mem_of_mem_drop (hd ▸ List.mem_cons_self : rd_T32 l (i : Int) ∈ l.drop i)
    obtain ⟨h1, h2⟩ := hw _ hm
    have ih := ih (i + 1) (by omega)
    have ho := own_iff ha h1 h2
    rw [hd]
    refine Ev.step (fun k => by rw [crossbarref07_Owner.l0]) (Ev.pos (by omega) (Ev.pos (by omega) ?_))
    generalize rd_T32 l (i : Int) = p at h1 h2 ho hd
    have hi1 : wrap64 ((i : Int) + 1) = ((i + 1 : Nat) : Int) := by rw [w64 (by omega) (by omega)]; rfl
    have skip : ownB a p = false → (((p :: l.drop (i + 1)).find? (ownB a)).map S32.f0).getD (-1) = (((l.drop (i + 1)).find? (ownB a)).map S32.f0).getD (-1) := by
      intro h
      rw [List.find?_cons_of_neg (by rw [h]; decide)]
    have hit : ownB a p = true → (((p :: l.drop (i + 1)).find? (ownB a)).map S32.f0).getD (-1) = p.f0 := by
      intro h
      rw [List.find?_cons_of_pos h]
      rfl
    have j1t : ownB a p = false → Ev (fun k => crossbarref07_Owner.j1 k l a (i : Int) true p.f0 p.f1 p.f2) ((((p :: l.drop (i + 1)).find? (ownB a)).map S32.f0).getD (-1)) := by
      intro h
      rw [skip h]
      exact Ev.step (fun k => by rw [crossbarref07_Owner.j1, hi1]) (Ev.pos rfl ih)
    unfold I64 at ha h1 h2
    by_cases c1 : p.f1 > a
    · exact Ev.pos c1 (j1t (by rw [ho]; exact decide_eq_false (by omega)))
    · refine Ev.neg c1 ?_
      by_cases c2 : p.f2 ≤ 0
      · rw [decide_eq_true c2]
        exact j1t (by rw [ho]; exact decide_eq_false (by omega))
      · rw [decide_eq_false c2]
        refine Ev.step (fun k => by rw [crossbarref07_Owner.j1]) (Ev.neg (by decide) ?_)
        have last : ¬ (p.f1 < 0 ∧ a ≥ 0) → Ev (fun k => crossbarref07_Owner.j2 k l a (i : Int) false p.f0 p.f1 p.f2) ((((p :: l.drop (i + 1)).find? (ownB a)).map S32.f0).getD (-1)) := by
          intro h
          refine Ev.step (fun k => by rw [crossbarref07_Owner.j2, hi1]) (Ev.neg (by decide) ?_)
          rw [w64 (n := a - p.f1) (by omega) (by omega)]
          by_cases c3 : a - p.f1 < p.f2
          · rw [hit (by rw [ho]; exact decide_eq_true (by omega))]
            exact Ev.pos c3 (Ev.now _)
          · rw [skip (by rw [ho]; exact decide_eq_false (by omega))]
            exact Ev.neg c3 ih
        by_cases c4 : p.f1 < 0
        · refine Ev.pos c4 ?_
          by_cases c5 : a ≥ 0
          · rw [decide_eq_true c5]
            refine Ev.step (fun k => by rw [crossbarref07_Owner.j2, hi1]) (Ev.pos rfl ?_)
            rw [w64 (n := a - p.f2) (by omega) (by omega)]
            by_cases c6 : a < p.f2
            · refine Ev.pos c6 ?_
              by_cases c7 : p.f1 > a - p.f2
              · rw [hit (by rw [ho]; exact decide_eq_true (by omega))]
                exact Ev.pos c7 (Ev.now _)
              · rw [skip (by rw [ho]; exact decide_eq_false (by omega))]
                exact Ev.neg c7 ih
            · rw [skip (by rw [ho]; exact decide_eq_false (by omega))]
              exact Ev.neg c6 ih
          · rw [decide_eq_false c5]
            exact last (by omega)
        · exact Ev.neg c4 (last (by omega))
theorem rown_ev {l : List S32} (hl : l.length ≤ 1000) {a : Int} (ha : I64 a) (hw : ∀ x ∈ l, I64 x.f1 ∧ I64 x.f2) : Ev (fun k => crossbarref07_Owner.f k l a) (((l.find? (ownB a)).map S32.f0).getD (-1)) :=
  Ev.congr (fun k => by rw [crossbarref07_Owner.f]; rfl) (rown_loop hl ha hw l.length 0 (by omega))
end Go.Proofs.Ytcbdgknfkoodoaa.S
namespace Go.Proofs.Ytcbdgknfkoodoaa.Pure
open Go.RowKit Go.Proofs.Ytcbdgknfkoodoaa.F Go.Proofs.YtcbdgknfkoodoaaW.PrintWords Go.Proofs.Ytcbdgknfkoodoaa.S Go.Proofs.YtcbdgknfkoodoaaW.RowKd
set_option linter.unusedVariables false
set_option linter.unusedSimpArgs false
theorem awake07 : Ev (fun k => crossbarlaw07_awake.f k) true := Ev.of crossbarlaw07_awake.mono (k := 60) (by decide +kernel)
theorem i64_of_wf {n : Int} (h : IQ .i64 n) : I64 n := by
  have h : (Lit.int .i64 n).wf = true := h
  simp [Lit.wf, IntKind.min, IntKind.max, IntKind.signed, IntKind.bits] at h
  exact h
theorem mk_len {l : List Int} (hb : Byt l) (hl : l.length ≤ 70000) : (ofM l).1.length ≤ 140737488351232 := by
  unfold ofM
  by_cases c : (openM l).2.2 = 0
  · rw [if_pos c, mk_length]
    have := tot_ge (pos_segs (openM l).1)
    have := (open_fit hb c).2
    omega
  · rw [if_neg c]
    exact Nat.zero_le _
theorem PlaceRight : crossbarlaw07_PlaceRight.PureS := by
  intro l0 l1 a2 a3 a4 _ hw0 _ hw1 h2 h3 h4
  have hb : Byt l0 := byt_of_wf hw0
  have hi3 := i64_of_wf h3
  have hi4 := i64_of_wf h4
  refine Ev.rounds ?_
  simp only [crossbarlaw07_PlaceRight.f]
  refine Ev.bind awake07 (Ev.pos rfl ?_)
  have j0 : ∀ b : Bool, (b = false → l0.length ≤ 70000 ∧ l1.length ≤ 99) → Ev (fun k => crossbarlaw07_PlaceRight.j0 k l0 l1 a2 a3 a4 b) true := by
    intro b h
    refine Ev.step (fun k => by rw [crossbarlaw07_PlaceRight.j0]) ?_
    cases b with
    | true => exact Ev.pos rfl (Ev.now _)
    | false =>
      obtain ⟨hl0, hl1⟩ := h rfl
      refine Ev.neg (by decide) (Ev.bind (of_ev hb) (Ev.bind (rof_ev hb) (Ev.pos rfl (Ev.bind (rsame_refl _ (mk_len hb hl0)) ?_))))
      refine Ev.step (fun k => by rw [crossbarlaw07_PlaceRight.j1]) (Ev.neg (by decide) ?_)
      refine Ev.bind (find_ev l1 (by omega) a2 a3 hi3.2) (Ev.bind (rfind_ev l1 (by omega) a2 a3 hi3.2) (Ev.pos (by simp) (Ev.pos rfl ?_)))
      have ho : place_Owner.f l1 a4 = some (((l1.find? (ownB a4)).map S32.f0).getD (-1)) := by rw [place_Owner.f]
      rw [ho]
      simp only [ob]
      refine Ev.bind (rown_ev (by omega) hi4 (fun x hx => ?_)) (Ev.eq fun k => by simp)
      have := hw1 x hx
      exact ⟨i64_of_wf this.2.1, i64_of_wf this.2.2⟩
  by_cases c : (l0.length : Int) > 70000
  · exact Ev.pos c (j0 true (fun h => by cases h))
  · refine Ev.neg c (j0 _ fun h => ?_)
    have := of_decide_eq_false h
    omega
end Go.Proofs.Ytcbdgknfkoodoaa.Pure
