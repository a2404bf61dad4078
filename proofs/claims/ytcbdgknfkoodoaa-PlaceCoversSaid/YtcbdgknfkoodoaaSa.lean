/- Plain lemmas on bytes, big numbers and rounds. No conditions beyond those stated. -/
import Derived.Test.YtcbdgknfkoodoaaX0
import Derived.IntWalk
import Derived.Laws.BitsLemmas
namespace Go.Proofs.Ytcbdgknfkoodoaa.S
open Go.RowKit Go.Proofs.YtcbdgknfkoodoaaW.PrintWords
set_option linter.unusedVariables false
set_option linter.unusedSimpArgs false

def Byt (l : List Int) : Prop := ∀ x ∈ l, 0 ≤ x ∧ x ≤ 255
theorem brd {l : List Int} (h : Byt l) (i : Int) : 0 ≤ rd l i ∧ rd l i ≤ 255 := by
  unfold rd
  by_cases hi : i.toNat < l.length
  · rw [List.getD_eq_getElem?_getD, List.getElem?_eq_getElem hi]
    exact h _ (List.getElem_mem hi)
  · rw [List.getD_eq_getElem?_getD, List.getElem?_eq_none (by omega)]
    simp
theorem Byt.take {l : List Int} (h : Byt l) (n : Nat) : Byt (l.take n) := fun x hx => h x (List.mem_of_mem_take hx)
theorem Byt.drop {l : List Int} (h : Byt l) (n : Nat) : Byt (l.drop n) := fun x hx => h x (List.mem_of_mem_drop hx)
theorem Byt.append {l m : List Int} (h : Byt l) (k : Byt m) : Byt (l ++ m) := fun x hx => by
  rcases List.mem_append.1 hx with hx | hx
  · exact h x hx
  · exact k x hx
theorem byt_of_wf {l : List Int} (h : ∀ x ∈ l, (Lit.int .u8 x).wf = true) : Byt l := fun x hx => by
  have := h x hx
  simp [Lit.wf, IntKind.min, IntKind.max, IntKind.signed, IntKind.bits] at this
  omega
theorem w64 {n : Int} (h0 : -9223372036854775808 ≤ n) (h1 : n ≤ 9223372036854775807) : wrap64 n = n := IntWalk.wrap64_in n ⟨h0, h1⟩
theorem u64w {n : Int} (h0 : 0 ≤ n) (h1 : n ≤ 18446744073709551615) : IntKind.u64.wrap n = n := IntWalk.u64_in n ⟨h0, h1⟩
theorem u16w {n : Int} (h0 : 0 ≤ n) (h1 : n ≤ 65535) : IntKind.u16.wrap n = n := IntWalk.u16_in n ⟨h0, h1⟩
theorem rd_eq {l : List Int} {i : Int} (h0 : 0 ≤ i) (h1 : i < l.length) : rd l i = l[i.toNat]'(by omega) := by
  unfold rd
  rw [List.getD_eq_getElem?_getD, List.getElem?_eq_getElem (by omega)]
  rfl
theorem rd_nat (l : List Int) (i : Nat) : rd l (i : Int) = l.getD i 0 := by simp [rd]

/-- The number of bytes, the highest first, behind v. -/
def be (v : Int) (y : List Int) : Int := y.foldl (fun v x => v * 256 + x) v
theorem be_cons (v x : Int) (y : List Int) : be v (x :: y) = be (v * 256 + x) y := rfl
theorem be_nil (v : Int) : be v [] = v := rfl
theorem be_append (v : Int) (y z : List Int) : be v (y ++ z) = be (be v y) z := by simp [be, List.foldl_append]
theorem be_range {y : List Int} (h : Byt y) : ∀ v : Int, 0 ≤ v → 0 ≤ be v y ∧ be v y < (v + 1) * 256 ^ y.length := by
  induction y with
  | nil => intro v hv; simp [be]; omega
  | cons x y ih =>
    intro v hv
    have hx := h x (by simp)
    have := ih (fun z hz => h z (by simp [hz])) (v * 256 + x) (by omega)
    rw [be_cons]
    refine ⟨this.1, Int.lt_of_lt_of_le this.2 ?_⟩
    rw [List.length_cons, Int.pow_succ, Int.mul_comm (256 ^ y.length) 256, ← Int.mul_assoc]
    exact Int.mul_le_mul_of_nonneg_right (by omega) (Int.pow_nonneg (by decide))
theorem or_join {x y : Int} (hx0 : 0 ≤ x) (hx : x < 72057594037927936) (hy0 : 0 ≤ y) (hy : y ≤ 255) :
    Go.bits .or .u64 (IntKind.u64.wrap (x * 256)) (IntKind.u64.wrap y) = x * 256 + y := by
  rw [u64w (by omega) (by omega), u64w (by omega) (by omega)]
  exact bits_join .u64 64 (by decide) (fun n h0 h1 => u64w h0 (by omega)) 8 _ _ (by omega) (by omega) (by omega) (by omega) (by omega) (by omega)
theorem or_join16 {x y : Int} (hx0 : 0 ≤ x) (hx : x ≤ 255) (hy0 : 0 ≤ y) (hy : y ≤ 255) :
    Go.bits .or .u16 (IntKind.u16.wrap ((IntKind.u16.wrap x) * 256)) (IntKind.u16.wrap y) = x * 256 + y := by
  rw [u16w hx0 (by omega), u16w (by omega) (by omega), u16w (by omega) (by omega)]
  exact bits_join .u16 16 (by decide) (fun n h0 h1 => u16w h0 (by omega)) 8 _ _ (by omega) (by omega) (by omega) (by omega) (by omega) (by omega)
theorem or_join64 {x y : Int} (hx0 : 0 ≤ x) (hx : x ≤ 255) (hy0 : 0 ≤ y) (hy : y ≤ 255) :
    Go.bits .or .i64 (wrap64 ((wrap64 x) * 256)) (wrap64 y) = x * 256 + y := by
  rw [w64 (n := x) (by omega) (by omega), w64 (by omega) (by omega), w64 (by omega) (by omega)]
  exact bits_join .i64 62 (by decide) (fun n h0 h1 => by rw [IntKind.wrap_i64]; omega) 8 _ _ (by omega) (by omega) (by omega) (by omega) (by omega) (by omega)
theorem nat_of {x : Int} (h0 : 0 ≤ x) (h1 : x ≤ 255) : ∃ n : Nat, n < 256 ∧ x = n := ⟨x.toNat, by omega, by omega⟩
theorem and8 : ∀ n : Nat, n < 256 → Go.bits .and .u8 (n : Int) 15 = ((n % 16 : Nat) : Int) ∧ (Go.bits .and .u8 (n : Int) 32 != 0) = decide (n / 32 % 2 = 1) ∧ (Go.bits .and .u8 (n : Int) 16 != 0) = decide (n / 16 % 2 = 1) ∧ (Go.bits .and .u8 (n : Int) 128 != 0) = decide (128 ≤ n) ∧ Go.bits .and .u8 (n : Int) 127 = ((n % 128 : Nat) : Int) := by decide +kernel
theorem and15 {x : Int} (h0 : 0 ≤ x) (h1 : x ≤ 255) : Go.bits .and .u8 x 15 = x % 16 := by
  obtain ⟨n, hn, rfl⟩ := nat_of h0 h1
  rw [(and8 n hn).1]; omega
theorem and32 {x : Int} (h0 : 0 ≤ x) (h1 : x ≤ 255) : (Go.bits .and .u8 x 32 != 0) = decide (x / 32 % 2 = 1) := by
  obtain ⟨n, hn, rfl⟩ := nat_of h0 h1
  rw [(and8 n hn).2.1]; apply decide_eq_decide.2; omega
theorem and16 {x : Int} (h0 : 0 ≤ x) (h1 : x ≤ 255) : (Go.bits .and .u8 x 16 != 0) = decide (x / 16 % 2 = 1) := by
  obtain ⟨n, hn, rfl⟩ := nat_of h0 h1
  rw [(and8 n hn).2.2.1]; apply decide_eq_decide.2; omega
theorem and128 {x : Int} (h0 : 0 ≤ x) (h1 : x ≤ 255) : (Go.bits .and .u8 x 128 != 0) = decide (128 ≤ x) := by
  obtain ⟨n, hn, rfl⟩ := nat_of h0 h1
  rw [(and8 n hn).2.2.2.1]; apply decide_eq_decide.2; omega
theorem and127 {x : Int} (h0 : 0 ≤ x) (h1 : x ≤ 255) : Go.bits .and .u8 x 127 = x % 128 := by
  obtain ⟨n, hn, rfl⟩ := nat_of h0 h1
  rw [(and8 n hn).2.2.2.2]; omega
/-- Not by rfl: simp would leave it to the kernel, which unfolds the loops first. -/
theorem ob {α β : Type} (a : α) (f : α → Option β) : (some a).bind f = f a := Eq.trans (Option.bind_some a f) (Eq.refl _)
theorem Ev.pos {α : Type} {c : Prop} [Decidable c] {x y : Nat → Option α} {r : α} (h : c) (e : Ev x r) : Ev (fun k => if c then x k else y k) r := Ev.congr (fun k => if_pos h) e
theorem Ev.neg {α : Type} {c : Prop} [Decidable c] {x y : Nat → Option α} {r : α} (h : ¬ c) (e : Ev y r) : Ev (fun k => if c then x k else y k) r := Ev.congr (fun k => if_neg h) e
theorem Ev.eq {α : Type} {g : Nat → Option α} {r : α} (h : ∀ k, g k = some r) : Ev g r := ⟨0, fun k _ => h k⟩
end Go.Proofs.Ytcbdgknfkoodoaa.S
