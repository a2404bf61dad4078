/- The walks of the program's functions and the plain proofs for this claim, merged by a program; each theorem says what it says, no conditions beyond those stated. -/
import Derived.Test.YtcbdgknfkoodoaaKD0
import Derived.Test.YtcbdgknfkoodoaaKD7
import Derived.Test.YtcbdgknfkoodoaaKD1
import Derived.Test.YtcbdgknfkoodoaaKD2
import Derived.Test.YtcbdgknfkoodoaaKD3
import Derived.Test.YtcbdgknfkoodoaaKD4
import Derived.Test.YtcbdgknfkoodoaaKD5
import Derived.Test.YtcbdgknfkoodoaaKD6
import Derived.ChangeSlices
import Derived.Deep.Slices
import Derived.WideShapes
import Derived.SizedLaws
import Derived.KernelRfl
import Derived.IntWalk
import Derived.Laws.BitsLemmas
import Derived.Lib.Bytes
namespace Go.Proofs.YtcbdgknfkoodoaaW.RowKd
open Go Go.ChangeShapes Go.WideShapes Go.RowKit Go.Deep Go.Proofs.YtcbdgknfkoodoaaW.PrintWords
set_option linter.unusedVariables false
abbrev IQ (k : IntKind) : Int → Prop := fun n => (Lit.int k n).wf = true
abbrev TQ : Bool → Prop := fun _ => True
abbrev LQ {α : Type} (Q : α → Prop) : List α → Prop := fun xs => xs.length ≤ maxLen ∧ ∀ x ∈ xs, Q x
abbrev PQ {α β : Type} (Q : α → Prop) (Q' : β → Prop) : α × β → Prop := fun v => Q v.1 ∧ Q' v.2
def Opn (H : Type) (enc : TypeId × Value → H) (P : Program) (w : World) {α : Type} (d : Kd α) (t : TypeId) (Q : α → Prop) : Prop :=
  ∀ (fuel : Nat) (cs : List Value) (x : DataW H × List MemPlace), DataW.trod enc P w 0 (fun _ => true) true fuel t cs = some x → ∃ v, d.K w v cs ∧ Q v
section
variable {H : Type} {enc : TypeId × Value → H} {P : Program} {w : World}
theorem op_int {t : TypeId} {k : IntKind} (ht : P.underlying t = some (.int k)) : Opn H enc P w (Kd.int k) t (IQ k) := by
  intro fuel cs x h
  obtain ⟨n, rfl, _, hw⟩ := DataW.trod_int ht h
  exact ⟨n, rfl, hw⟩
theorem op_bool {t : TypeId} (ht : P.underlying t = some .bool) : Opn H enc P w Kd.bool t TQ := by
  intro fuel cs x h
  obtain ⟨n, rfl, _⟩ := DataW.trod_bool ht h
  exact ⟨n, rfl, trivial⟩
theorem list_of {α : Type} {p : Nat → α → Prop} : ∀ {n : Nat}, (∀ i, i < n → ∃ v, p i v) → ∃ xs : List α, xs.length = n ∧ ∀ i v, xs[i]? = some v → p i v
  | 0, _ => ⟨[], rfl, fun i v h => by simp at h⟩
  | n + 1, h => by
    obtain ⟨xs, hl, hx⟩ := list_of (n := n) (fun i hi => h i (by omega))
    obtain ⟨v, hv⟩ := h n (by omega)
    refine ⟨xs ++ [v], by simp [hl], fun i u hu => ?_⟩
    by_cases hi : i < n
    · rw [List.getElem?_append_left (by omega)] at hu
      exact hx i u hu
    · rw [List.getElem?_append_right (by omega)] at hu
      have hi' : i = n := by
        by_cases h' : i - xs.length = 0
        · omega
        · rw [List.getElem?_eq_none (by simp; omega)] at hu
          exact absurd hu (by simp)
      subst hi'
      simp [hl] at hu
      subst hu
      exact hv
theorem maxLen_le : maxLen ≤ 9223372036854775807 := by decide
theorem op_slice {α : Type} {d : Kd α} {t e : TypeId} (g : Nat) {Q : α → Prop} (ht : P.underlying t = some (.slice e)) (hd : P.cellsOf e = d.sz) (he : Opn H enc P w d e Q) :
    Opn H enc P w (Kd.slice g d) t (LQ Q) := by
  intro fuel cs x h
  rcases DataW.trod_slice ht h with ⟨rfl, _⟩ | ⟨a, len, cap, elems, rest, n, _, rfl, _, hb, hl, hm, hlen, hel, _, _⟩
  · exact ⟨[], ⟨none, 0, rfl, Nat.le_refl _, rfl, Nat.zero_le _, fun h => absurd h (by simp)⟩, Nat.zero_le _, fun _ h => by simp at h⟩
  have each : ∀ i, i < len → ∃ v, (∃ c, c.length = d.sz ∧ d.K w v c ∧ ∀ j u, c[j]? = some u → w.cell? (a.add (i * d.sz + j)) = some u) ∧ Q v := by
    intro i hi
    have h1 := hel i hi
    rw [List.getElem?_eq_getElem (by omega)] at h1
    obtain ⟨c, hc, hx⟩ := Option.bind_eq_some_iff.1 h1
    obtain ⟨v, hv, hq⟩ := he n c _ hx
    obtain ⟨_, hcl, hcell⟩ := World.cells?_some hc
    refine ⟨v, ⟨c, by rw [hcl, hd], hv, fun j u hu => ?_⟩, hq⟩
    have hj : j < P.cellsOf e := by
      rw [← hcl]
      exact (List.getElem?_eq_some_iff.1 hu).1
    have := hcell j hj
    rw [Go.Deep.add_add, hu, hd] at this
    exact this
  obtain ⟨xs, hxl, hx⟩ := list_of each
  subst hxl
  refine ⟨xs, ⟨some a, cap, rfl, hl, rfl, Nat.le_trans hl (Nat.le_trans hm maxLen_le), fun _ => ⟨a, rfl, fun j p hp => (hx j p hp).1⟩⟩, Nat.le_trans hl hm, fun y hy => ?_⟩
  obtain ⟨i, hi⟩ := List.getElem?_of_mem hy
  exact (hx i y hi).2
def OpF (H : Type) (enc : TypeId × Value → H) (P : Program) (w : World) {α : Type} (d : Kd α) (off all : Nat) (fs : List Field) (Q : α → Prop) : Prop :=
  ∀ (n : Nat) (cs : List Value), cs.length = all → (∀ f ∈ fs, ∃ y, DataW.trod enc P w 0 (fun _ => true) true n f.type ((cs.drop f.offset).take (P.cellsOf f.type)) = some y) → ∃ v, d.K w v (cs.drop off) ∧ Q v
theorem opf_one {α : Type} {d : Kd α} {f : Field} {off all : Nat} {Q : α → Prop} (ho : f.offset = off) (ha : off + P.cellsOf f.type = all) (h : Opn H enc P w d f.type Q) : OpF H enc P w d off all [f] Q := by
  intro n cs hl hf
  obtain ⟨y, hy⟩ := hf f (by simp)
  rw [ho, List.take_of_length_le (by simp; omega)] at hy
  exact h _ _ _ hy
theorem opf_cons {α β : Type} {d : Kd α} {d' : Kd β} {f : Field} {fs : List Field} {off all : Nat} {Q : α → Prop} {Q' : β → Prop} (ho : f.offset = off) (h : Opn H enc P w d f.type Q) (h' : OpF H enc P w d' (off + P.cellsOf f.type) all fs Q') :
    OpF H enc P w (Kd.pair d d') off all (f :: fs) (PQ Q Q') := by
  intro n cs hl hf
  obtain ⟨y, hy⟩ := hf f (by simp)
  obtain ⟨v, hv, hq⟩ := h _ _ _ hy
  obtain ⟨v', hv', hq'⟩ := h' n cs hl (fun g hg => hf g (List.mem_cons_of_mem _ hg))
  refine ⟨(v, v'), ⟨_, _, ?_, hv, hv'⟩, hq, hq'⟩
  rw [ho, ← List.drop_drop, List.take_append_drop]
theorem op_struct {α : Type} {d : Kd α} {t : TypeId} {fs : Array Field} {l : List Field} {Q : α → Prop} (ht : P.underlying t = some (.struct fs)) (hl : fs.toList = l) {all : Nat} (ha : P.cellsOf t = all) (h : OpF H enc P w d 0 all l Q) : Opn H enc P w d t Q := by
  intro fuel cs x hx
  obtain ⟨xs, n, _, _, hlen, hxl, hf⟩ := DataW.trod_struct ht hx
  have := h n cs (by rw [hlen, ha]) (fun f hfm => by
    rw [← hl] at hfm
    obtain ⟨i, hi⟩ := List.getElem?_of_mem hfm
    have hi' : fs[i]? = some f := by simpa using hi
    have h2 := hf i f hi'
    have hlt : i < xs.length := by
      rw [hxl]
      exact (Array.getElem?_eq_some_iff.1 hi').1
    rw [List.getElem?_eq_getElem hlt] at h2
    exact ⟨_, h2⟩)
  simpa using this
theorem Opn.read {α : Type} {d : Kd α} {t : TypeId} {Q : α → Prop} (h : Opn H enc P w d t Q) {v : Value} {x : DataW H} {ps : List MemPlace} (ht : DataW.Trod enc P w 0 (fun _ => true) true t v x ps) : ∃ y, d.K w y v.cells.toList ∧ Q y := by
  obtain ⟨fuel, hf⟩ := ht
  exact h _ _ _ hf
end
end Go.Proofs.YtcbdgknfkoodoaaW.RowKd
namespace Go.Proofs.Ytcbdgknfkoodoaa.F
open Go Go.RowKit Go.Proofs.YtcbdgknfkoodoaaW.PrintWords Go.Proofs.YtcbdgknfkoodoaaW.PrintLast Go.Proofs.YtcbdgknfkoodoaaW.PrintMore Go.Proofs.YtcbdgknfkoodoaaW.RowKd
set_option linter.unusedVariables false
theorem op_T43 {H : Type} {enc : TypeId × Value → H} {w : World} : Opn H enc Try.prog w (Kd.pair (Kd.bool) (Kd.pair (Kd.bool) (Kd.pair (Kd.bool) (Kd.pair (Kd.int .i64) (Kd.pair (Kd.int .u16) (Kd.pair (Kd.int .u32) (Kd.pair (Kd.int .u32) (Kd.slice 40 (Kd.int .u32))))))))) 43 (PQ TQ (PQ TQ (PQ TQ (PQ (IQ .i64) (PQ (IQ .u16) (PQ (IQ .u32) (PQ (IQ .u32) (LQ (IQ .u32))))))))) := op_struct Try.underlying43 rfl (all := 8) (by kernel_rfl) (opf_cons rfl (op_bool Try.underlying4) (opf_cons rfl (op_bool Try.underlying4) (opf_cons rfl (op_bool Try.underlying4) (opf_cons rfl (op_int Try.underlying3) (opf_cons rfl (op_int Try.underlying39) (opf_cons rfl (op_int Try.underlying40) (opf_cons rfl (op_int Try.underlying40) (opf_one rfl (by kernel_rfl) (op_slice 40 Try.underlying41 (by kernel_rfl) (op_int Try.underlying40))))))))))
theorem op_T45 {H : Type} {enc : TypeId × Value → H} {w : World} : Opn H enc Try.prog w (Kd.pair (Kd.pair (Kd.bool) (Kd.pair (Kd.bool) (Kd.pair (Kd.bool) (Kd.pair (Kd.int .i64) (Kd.pair (Kd.int .u16) (Kd.pair (Kd.int .u32) (Kd.pair (Kd.int .u32) (Kd.slice 40 (Kd.int .u32))))))))) (Kd.pair (Kd.int .u16) (Kd.pair (Kd.slice 5 (Kd.int .u8)) (Kd.pair (Kd.slice 5 (Kd.int .u8)) (Kd.int .i64))))) 45 (PQ (PQ TQ (PQ TQ (PQ TQ (PQ (IQ .i64) (PQ (IQ .u16) (PQ (IQ .u32) (PQ (IQ .u32) (LQ (IQ .u32))))))))) (PQ (IQ .u16) (PQ (LQ (IQ .u8)) (PQ (LQ (IQ .u8)) (IQ .i64))))) := op_struct Try.underlying45 rfl (all := 12) (by kernel_rfl) (opf_cons rfl (op_T43) (opf_cons rfl (op_int Try.underlying39) (opf_cons rfl (op_slice 5 Try.underlying22 (by kernel_rfl) (op_int Try.underlying5)) (opf_cons rfl (op_slice 5 Try.underlying22 (by kernel_rfl) (op_int Try.underlying5)) (opf_one rfl (by kernel_rfl) (op_int Try.underlying3))))))
def crossbarlaw06_PacketCut.PureS : Prop := ∀ (a0_0 : Bool) (a0_1 : Bool) (a0_2 : Bool) (a0_3 : Int) (a0_4 : Int) (a0_5 : Int) (a0_6 : Int) (l0_7 : List (Int)) (a0_8 : Int) (l0_9 : List (Int)) (l0_10 : List (Int)) (a0_11 : Int) (a1 : Int) (l2 : List (Int)), (IQ .i64) a0_3 → (IQ .u16) a0_4 → (IQ .u32) a0_5 → (IQ .u32) a0_6 → l0_7.length ≤ maxLen → (∀ x ∈ l0_7, (IQ .u32) x) → (IQ .u16) a0_8 → l0_9.length ≤ maxLen → (∀ x ∈ l0_9, (IQ .u8) x) → l0_10.length ≤ maxLen → (∀ x ∈ l0_10, (IQ .u8) x) → (IQ .i64) a0_11 → (IQ .u16) a1 → l2.length ≤ maxLen → (∀ x ∈ l2, (IQ .u8) x) → ∃ k, crossbarlaw06_PacketCut.f k a0_0 a0_1 a0_2 a0_3 a0_4 a0_5 a0_6 l0_7 a0_8 l0_9 l0_10 a0_11 a1 l2 = some true
end Go.Proofs.Ytcbdgknfkoodoaa.F
namespace Go.Proofs.Ytcbdgknfkoodoaa.S
open Go.RowKit Go.Proofs.YtcbdgknfkoodoaaW.PrintWords
set_option linter.unusedVariables false
set_option linter.unusedSimpArgs false
def Byt (l : List Int) : Prop := ∀ x ∈ l, 0 ≤ x ∧ x ≤ 255
theorem brd {l : List Int} (h : Byt l) (i : Int) : 0 ≤ rd l i ∧ rd l i ≤ 255 := by
  unfold rd
  by_cases hi : i.toNat < l.length
  · rw [List.getD_eq_getElem?_getD, List.getElem?_eq_getElem hi]
    exact h _ (List.getElem_mem hi)
  · rw [List.getD_eq_getElem?_getD, List.getElem?_eq_none (by omega)]
    simp
theorem Byt.take {l : List Int} (h : Byt l) (n : Nat) : Byt (l.take n) := fun x hx => h x (List.mem_of_mem_take hx)
theorem Byt.drop {l : List Int} (h : Byt l) (n : Nat) : Byt (l.drop n) := fun x hx => h x (List.mem_of_mem_drop hx)
theorem Byt.append {l m : List Int} (h : Byt l) (k : Byt m) : Byt (l ++ m) := fun x hx => by
  rcases List.mem_append.1 hx with hx | hx
  · exact h x hx
  · exact k x hx
theorem byt_of_wf {l : List Int} (h : ∀ x ∈ l, (Lit.int .u8 x).wf = true) : Byt l := fun x hx => by
  have := h x hx
  simp [Lit.wf, IntKind.min, IntKind.max, IntKind.signed, IntKind.bits] at this
  omega
theorem w64 {n : Int} (h0 : -9223372036854775808 ≤ n) (h1 : n ≤ 9223372036854775807) : wrap64 n = n := IntWalk.wrap64_in n ⟨h0, h1⟩
theorem u64w {n : Int} (h0 : 0 ≤ n) (h1 : n ≤ 18446744073709551615) : IntKind.u64.wrap n = n := IntWalk.u64_in n ⟨h0, h1⟩
theorem u16w {n : Int} (h0 : 0 ≤ n) (h1 : n ≤ 65535) : IntKind.u16.wrap n = n := IntWalk.u16_in n ⟨h0, h1⟩
theorem rd_eq {l : List Int} {i : Int} (h0 : 0 ≤ i) (h1 : i < l.length) : rd l i = l[i.toNat]'(by omega) := by
  unfold rd
  rw [List.getD_eq_getElem?_getD, List.getElem?_eq_getElem (by omega)]
  rfl
def be (v : Int) (y : List Int) : Int := y.foldl (fun v x => v * 256 + x) v
theorem be_cons (v x : Int) (y : List Int) : be v (x :: y) = be (v * 256 + x) y := rfl
theorem be_range {y : List Int} (h : Byt y) : ∀ v : Int, 0 ≤ v → 0 ≤ be v y ∧ be v y < (v + 1) * 256 ^ y.length := by
  induction y with
  | nil => intro v hv; simp [be]; omega
  | cons x y ih =>
    intro v hv
    have hx := h x (by simp)
    have := ih (fun z hz => h z (by simp [hz])) (v * 256 + x) (by omega)
    rw [be_cons]
    refine ⟨this.1, Int.lt_of_lt_of_le this.2 ?_⟩
    rw [List.length_cons, Int.pow_succ, Int.mul_comm (256 ^ y.length) 256, ← Int.mul_assoc]
    exact Int.mul_le_mul_of_nonneg_right (by omega) (Int.pow_nonneg (by decide))
theorem or_join {x y : Int} (hx0 : 0 ≤ x) (hx : x < 72057594037927936) (hy0 : 0 ≤ y) (hy : y ≤ 255) :
    Go.bits .or .u64 (IntKind.u64.wrap (x * 256)) (IntKind.u64.wrap y) = x * 256 + y := by
  rw [u64w (by omega) (by omega), u64w (by omega) (by omega)]
  exact bits_join .u64 64 (by decide) (fun n h0 h1 => u64w h0 (by omega)) 8 _ _ (by omega) (by omega) (by omega) (by omega) (by omega) (by omega)
theorem or_join16 {x y : Int} (hx0 : 0 ≤ x) (hx : x ≤ 255) (hy0 : 0 ≤ y) (hy : y ≤ 255) :
    Go.bits .or .u16 (IntKind.u16.wrap ((IntKind.u16.wrap x) * 256)) (IntKind.u16.wrap y) = x * 256 + y := by
  rw [u16w hx0 (by omega), u16w (by omega) (by omega), u16w (by omega) (by omega)]
  exact bits_join .u16 16 (by decide) (fun n h0 h1 => u16w h0 (by omega)) 8 _ _ (by omega) (by omega) (by omega) (by omega) (by omega) (by omega)
theorem or_join64 {x y : Int} (hx0 : 0 ≤ x) (hx : x ≤ 255) (hy0 : 0 ≤ y) (hy : y ≤ 255) :
    Go.bits .or .i64 (wrap64 ((wrap64 x) * 256)) (wrap64 y) = x * 256 + y := by
  rw [w64 (n := x) (by omega) (by omega), w64 (by omega) (by omega), w64 (by omega) (by omega)]
  exact bits_join .i64 62 (by decide) (fun n h0 h1 => by rw [IntKind.wrap_i64]; omega) 8 _ _ (by omega) (by omega) (by omega) (by omega) (by omega) (by omega)
theorem nat_of {x : Int} (h0 : 0 ≤ x) (h1 : x ≤ 255) : ∃ n : Nat, n < 256 ∧ x = n := ⟨x.toNat, by omega, by omega⟩
theorem and8 : ∀ n : Nat, n < 256 → Go.bits .and .u8 (n : Int) 15 = ((n % 16 : Nat) : Int) ∧ (Go.bits .and .u8 (n : Int) 32 != 0) = decide (n / 32 % 2 = 1) ∧ (Go.bits .and .u8 (n : Int) 16 != 0) = decide (n / 16 % 2 = 1) ∧ (Go.bits .and .u8 (n : Int) 128 != 0) = decide (128 ≤ n) ∧ Go.bits .and .u8 (n : Int) 127 = ((n % 128 : Nat) : Int) := by decide +kernel
theorem and15 {x : Int} (h0 : 0 ≤ x) (h1 : x ≤ 255) : Go.bits .and .u8 x 15 = x % 16 := by
  obtain ⟨n, hn, rfl⟩ := nat_of h0 h1
  rw [(and8 n hn).1]; omega
theorem and32 {x : Int} (h0 : 0 ≤ x) (h1 : x ≤ 255) : (Go.bits .and .u8 x 32 != 0) = decide (x / 32 % 2 = 1) := by
  obtain ⟨n, hn, rfl⟩ := nat_of h0 h1
  rw [(and8 n hn).2.1]; apply decide_eq_decide.2; omega
theorem and16 {x : Int} (h0 : 0 ≤ x) (h1 : x ≤ 255) : (Go.bits .and .u8 x 16 != 0) = decide (x / 16 % 2 = 1) := by
  obtain ⟨n, hn, rfl⟩ := nat_of h0 h1
  rw [(and8 n hn).2.2.1]; apply decide_eq_decide.2; omega
theorem and128 {x : Int} (h0 : 0 ≤ x) (h1 : x ≤ 255) : (Go.bits .and .u8 x 128 != 0) = decide (128 ≤ x) := by
  obtain ⟨n, hn, rfl⟩ := nat_of h0 h1
  rw [(and8 n hn).2.2.2.1]; apply decide_eq_decide.2; omega
theorem and127 {x : Int} (h0 : 0 ≤ x) (h1 : x ≤ 255) : Go.bits .and .u8 x 127 = x % 128 := by
  obtain ⟨n, hn, rfl⟩ := nat_of h0 h1
  rw [(and8 n hn).2.2.2.2]; omega
theorem ob {α β : Type} (a : α) (f : α → Option β) : (some a).bind f = f a := Eq.trans (Option.bind_some a f) (Eq.refl _)
theorem Ev.pos {α : Type} {c : Prop} [Decidable c] {x y : Nat → Option α} {r : α} (h : c) (e : Ev x r) : Ev (fun k => if c then x k else y k) r := Ev.congr (fun k => if_pos h) e
theorem Ev.neg {α : Type} {c : Prop} [Decidable c] {x y : Nat → Option α} {r : α} (h : ¬ c) (e : Ev y r) : Ev (fun k => if c then x k else y k) r := Ev.congr (fun k => if_neg h) e
theorem Ev.eq {α : Type} {g : Nat → Option α} {r : α} (h : ∀ k, g k = some r) : Ev g r := ⟨0, fun k _ => h k⟩
end Go.Proofs.Ytcbdgknfkoodoaa.S
namespace Go.Proofs.Ytcbdgknfkoodoaa.S
open Go.RowKit Go.Proofs.YtcbdgknfkoodoaaW.PrintWords Go.Proofs.Ytcbdgknfkoodoaa.F
set_option linter.unusedVariables false
set_option linter.unusedSimpArgs false
theorem get_loop {y : List Int} (hb : Byt y) (h8 : y.length ≤ 8) : ∀ (d i : Nat) (v : Int), i + d = y.length → 0 ≤ v → v < ((256 ^ i : Nat) : Int) → Ev (fun k => octet_Get.l0 k v y (y.length : Int) (i : Int)) (be v (y.drop i), 0) := by
  intro d
  induction d with
  | zero =>
    intro i v hi hv hv2
    refine Ev.step (f := fun _ => some (be v (y.drop i), 0)) (fun k => ?_) (Ev.now _)
    simp only [octet_Get.l0]
    rw [if_neg (by omega), List.drop_of_length_le (by omega)]
    rfl
  | succ d ih =>
    intro i v hi hv hv2
    have hx := brd hb (i : Int)
    have hp : 256 ^ i ≤ 72057594037927936 := Nat.le_trans (Nat.pow_le_pow_right (show 0 < 256 by decide) (show i ≤ 7 by omega)) (by decide)
    have hv3 : v < 72057594037927936 := Int.lt_of_lt_of_le hv2 (Int.ofNat_le.2 hp)
    refine Ev.step (f := fun k => octet_Get.l0 k (v * 256 + rd y i) y (y.length : Int) ((i + 1 : Nat) : Int)) (fun k => ?_) ?_
    · conv => lhs; unfold octet_Get.l0
      rw [if_pos (by omega), if_pos (by omega), if_pos (by omega), or_join hv hv3 hx.1 hx.2, w64 (by omega) (by omega)]
      rfl
    · have := ih (i + 1) (v * 256 + rd y i) (by omega) (by omega) (by rw [Nat.pow_succ, Int.natCast_mul]; omega)
      have hd : y.drop i = rd y i :: y.drop (i + 1) := by
        rw [List.drop_eq_getElem_cons (show i < y.length by omega), rd_eq (by omega) (by omega)]
        rfl
      rw [hd, be_cons]
      exact this
def cutn (l : List Int) (at_ n : Nat) : List Int := (l.drop at_).take n
def w32 (l : List Int) (at_ : Nat) : Int := be 0 (cutn l at_ 4)
theorem w32_range {l : List Int} (hb : Byt l) (a : Nat) (h : a + 4 ≤ l.length) : 0 ≤ w32 l a ∧ w32 l a < 4294967296 := by
  have := be_range (y := cutn l a 4) ((hb.drop a).take 4) 0 (by omega)
  have hl : (cutn l a 4).length = 4 := by simp [cutn]; omega
  rw [hl] at this
  exact this
theorem get4_ev {l : List Int} (hb : Byt l) (hl : l.length ≤ 140737488351232) (a : Nat) (h : a + 4 ≤ l.length) : Ev (fun k => octet_Get.f k l (a : Int) 4) (w32 l a, 0) := by
  have hy : (l.take (a + 4)).drop a = cutn l a 4 := by rw [cutn, List.drop_take]; congr 1; omega
  have hyl : (cutn l a 4).length = 4 := by simp [cutn]; omega
  refine Ev.step (f := fun k => octet_Get.l0 k 0 (cutn l a 4) ((cutn l a 4).length : Int) ((0 : Nat) : Int)) (fun k => ?_) ?_
  · simp only [octet_Get.f]
    rw [if_neg (by omega), if_neg (by omega), show decide ((a : Int) < 0) = false from decide_eq_false (by omega)]
    simp only [octet_Get.j0]
    rw [if_neg Bool.false_ne_true]
    have hs : octet_span.f (l.length : Int) (a : Int) 4 = some 0 := by
      unfold octet_span.f
      rw [if_neg (by omega), w64 (by omega) (by omega), if_neg (by omega)]
    rw [hs]
    simp only [ob]
    rw [if_pos trivial, if_pos (by omega), w64 (by omega) (by omega), if_pos (by omega), if_pos (by omega)]
    rw [show ((a : Int) + 4).toNat = a + 4 by omega, Int.toNat_natCast, hy]
    rfl
  · have := get_loop (y := cutn l a 4) ((hb.drop a).take 4) (by omega) 4 0 0 (by omega) (by omega) (by decide)
    rw [List.drop_zero] at this
    exact this
theorem word_ev {l : List Int} (hb : Byt l) (hl : l.length ≤ 140737488351232) (a : Nat) (h : a + 4 ≤ l.length) : Ev (fun k => head_wordAt.f k l (a : Int)) (w32 l a) := by
  have hr := w32_range hb a h
  have e1 := get4_ev hb hl a h
  refine Ev.congr (f := fun k => (octet_Get.f k l (a : Int) 4).bind fun b => some (b.1 % 4294967296)) (fun k => by unfold head_wordAt.f; rfl) (Ev.bind e1 (f := fun _ b => some (b.1 % 4294967296)) ?_)
  refine Ev.eq fun k => ?_
  dsimp only
  rw [Int.emod_eq_of_lt hr.1 hr.2]
structure Hd where
  pad : Bool
  ext : Bool
  mark : Bool
  typ : Int
  seq : Int
  tm : Int
  ssrc : Int
  csrc : List Int
def Hd.zero : Hd := ⟨false, false, false, 0, 0, 0, 0, []⟩
def words (l : List Int) (a n : Nat) : List Int := (List.range n).map fun i => w32 l (a + 4 * i)
def headM (l : List Int) : Hd × Int × Int :=
  if l.length < 12 then (.zero, 0, 2) else if rd l 0 / 64 ≠ 2 then (.zero, 0, 3) else if (l.length : Int) < 12 + 4 * (rd l 0 % 16) then (.zero, 0, 2) else
  (⟨decide (rd l 0 / 32 % 2 = 1), decide (rd l 0 / 16 % 2 = 1), decide (128 ≤ rd l 1), rd l 1 % 128, rd l 2 * 256 + rd l 3, w32 l 4, w32 l 8, words l 12 (rd l 0 % 16).toNat⟩, 12 + 4 * (rd l 0 % 16), 0)
abbrev hflat (h : Hd × Int × Int) : Bool × Bool × Bool × Int × Int × Int × Int × List Int × Int × Int := (h.1.pad, h.1.ext, h.1.mark, h.1.typ, h.1.seq, h.1.tm, h.1.ssrc, h.1.csrc, h.2.1, h.2.2)
theorem head_loop {l : List Int} (hb : Byt l) (hl : l.length ≤ 140737488351232) {n : Nat} (hn : n ≤ 15) (h : 12 + 4 * n ≤ l.length) (x6 : Int) (p e m : Bool) (ty sq tm ss : Int) :
    ∀ (d i : Nat), i + d = n → Ev (fun k => head_Read.l0 k l (n : Int) x6 (i : Int) p e m ty sq tm ss (words l 12 i)) (p, e, m, ty, sq, tm, ss, words l 12 n, x6, 0) := by
  intro d
  induction d with
  | zero =>
    intro i hi
    obtain rfl : i = n := by omega
    refine Ev.step (f := fun _ => some (p, e, m, ty, sq, tm, ss, words l 12 i, x6, 0)) (fun k => ?_) (Ev.now _)
    simp only [head_Read.l0]
    rw [if_neg (by omega)]
  | succ d ih =>
    intro i hi
    refine Ev.step (f := fun k => (head_wordAt.f k l ((12 + 4 * i : Nat) : Int)).bind fun t => if (words l 12 i).length < 35184372088832 then head_Read.l0 k l (n : Int) x6 ((i + 1 : Nat) : Int) p e m ty sq tm ss (words l 12 i ++ [t]) else none) (fun k => ?_) ?_
    · conv => lhs; unfold head_Read.l0
      rw [if_pos (by omega), w64 (n := 4 * (i : Int)) (by omega) (by omega), w64 (by omega) (by omega), w64 (n := (i : Int) + 1) (by omega) (by omega)]
      rfl
    · refine Ev.bind (word_ev hb hl (12 + 4 * i) (by omega)) ?_
      refine Ev.congr (f := fun k => head_Read.l0 k l (n : Int) x6 ((i + 1 : Nat) : Int) p e m ty sq tm ss (words l 12 (i + 1))) (fun k => ?_) (ih (i + 1) (by omega))
      rw [if_pos (by simp [words]; omega)]
      congr 1
      simp [words, List.range_succ]
theorem head_ev {l : List Int} (hb : Byt l) (hl : l.length ≤ 140737488351232) : Ev (fun k => head_Read.f k l) (hflat (headM l)) := by
  have h0 := brd hb 0
  have h1 := brd hb 1
  have h2 := brd hb 2
  have h3 := brd hb 3
  by_cases c1 : l.length < 12
  · refine Ev.eq fun k => ?_
    simp only [head_Read.f, headM, if_pos c1, if_pos (show (l.length : Int) < 12 by omega)]
    rfl
  · by_cases c2 : rd l 0 / 64 = 2
    · by_cases c3 : (l.length : Int) < 12 + 4 * (rd l 0 % 16)
      · refine Ev.eq fun k => ?_
        simp only [head_Read.f, headM, if_neg c1, if_pos c3]
        rw [if_neg (by omega), if_pos (by omega), if_pos c2, and15 h0.1 h0.2, w64 (n := rd l 0 % 16) (by omega) (by omega), w64 (n := 4 * _) (by omega) (by omega), w64 (by omega) (by omega), if_pos c3, if_neg (by simpa using c2)]
        rfl
      · have hn : ((rd l 0 % 16).toNat : Int) = rd l 0 % 16 := by omega
        refine Ev.congr (f := fun k => (head_wordAt.f k l ((4 : Nat) : Int)).bind fun t => (head_wordAt.f k l ((8 : Nat) : Int)).bind fun u => head_Read.l0 k l ((rd l 0 % 16).toNat : Int) (12 + 4 * (rd l 0 % 16)) ((0 : Nat) : Int) (decide (rd l 0 / 32 % 2 = 1)) (decide (rd l 0 / 16 % 2 = 1)) (decide (128 ≤ rd l 1)) (rd l 1 % 128) (rd l 2 * 256 + rd l 3) t u (words l 12 0)) (fun k => ?_) ?_
        · simp only [head_Read.f]
          rw [if_neg (by omega), if_pos (by omega), if_pos c2, and15 h0.1 h0.2, w64 (n := rd l 0 % 16) (by omega) (by omega), w64 (n := 4 * _) (by omega) (by omega), w64 (n := 12 + _) (by omega) (by omega), if_neg c3, if_pos (by omega), if_pos (by omega), if_pos (by omega), and32 h0.1 h0.2, and16 h0.1 h0.2, and128 h1.1 h1.2, and127 h1.1 h1.2, w64 (n := rd l 1 % 128) (by omega) (by omega), or_join16 h2.1 h2.2 h3.1 h3.2, hn]
          rfl
        · refine Ev.bind (word_ev hb hl 4 (by omega)) (Ev.bind (word_ev hb hl 8 (by omega)) ?_)
          have := head_loop hb hl (n := (rd l 0 % 16).toNat) (by omega) (by omega) (12 + 4 * (rd l 0 % 16)) (decide (rd l 0 / 32 % 2 = 1)) (decide (rd l 0 / 16 % 2 = 1)) (decide (128 ≤ rd l 1)) (rd l 1 % 128) (rd l 2 * 256 + rd l 3) (w32 l 4) (w32 l 8) (rd l 0 % 16).toNat 0 (by omega)
          rw [show hflat (headM l) = _ from by simp only [headM, if_neg c1, if_neg c3, if_neg (show ¬ (rd l 0 / 64 ≠ 2) by simpa using c2)]; rfl]
          exact this
    · refine Ev.eq fun k => ?_
      simp only [head_Read.f, headM, if_neg c1]
      rw [if_neg (by omega), if_pos (by omega), if_neg c2, if_pos (by simpa using c2)]
      rfl
end Go.Proofs.Ytcbdgknfkoodoaa.S
namespace Go.Proofs.Ytcbdgknfkoodoaa.S
open Go.RowKit Go.Proofs.YtcbdgknfkoodoaaW.PrintWords Go.Proofs.Ytcbdgknfkoodoaa.F
set_option linter.unusedVariables false
set_option linter.unusedSimpArgs false
theorem rdL2 {ls : List (List Int)} {i : Nat} (h : i < ls.length) : rd_L2 ls (i : Int) = ls[i] := by
  simp [rd_L2, h]
theorem flat_take (ls : List (List Int)) (i : Nat) (h : i < ls.length) : (ls.take (i + 1)).flatten = (ls.take i).flatten ++ ls[i] := by
  rw [List.take_succ_eq_append_getElem h, List.flatten_append]
  simp
theorem flat_le (ls : List (List Int)) (i : Nat) : (ls.take i).flatten.length ≤ ls.flatten.length := by
  conv => rhs; rw [← List.take_append_drop i ls, List.flatten_append, List.length_append]
  omega
theorem join1 {ls : List (List Int)} (hn : ls.length ≤ 140737488351232) (hl : ls.flatten.length ≤ 140737488351232) : ∀ (d i : Nat), i + d = ls.length → Ev (fun k => octet_Join.l1 k (ls.take i).flatten ls (ls.length : Int) (i : Int)) ls.flatten := by
  intro d
  induction d with
  | zero =>
    intro i hi
    refine Ev.step (f := fun _ => some ls.flatten) (fun k => ?_) (Ev.now _)
    simp only [octet_Join.l1]
    rw [if_neg (by omega), List.take_of_length_le (by omega)]
  | succ d ih =>
    intro i hi
    have hf := flat_take ls i (by omega)
    have hle := flat_le ls (i + 1)
    rw [hf, List.length_append] at hle
    refine Ev.step (f := fun k => octet_Join.l1 k (ls.take (i + 1)).flatten ls (ls.length : Int) ((i + 1 : Nat) : Int)) (fun k => ?_) (ih (i + 1) (by omega))
    conv => lhs; unfold octet_Join.l1
    rw [if_pos (by omega), if_pos (by omega), if_pos (by omega), rdL2 (show i < ls.length by omega), if_pos (by omega), w64 (by omega) (by omega), hf]
    rfl
theorem join0 {ls : List (List Int)} (hn : ls.length ≤ 140737488351232) (hl : ls.flatten.length ≤ 140737488351232) : ∀ (d i : Nat), i + d = ls.length → Ev (fun k => octet_Join.l0 k ls ((ls.take i).flatten.length : Int) ls (ls.length : Int) (i : Int)) ls.flatten := by
  intro d
  induction d with
  | zero =>
    intro i hi
    refine Ev.step (f := fun k => octet_Join.l1 k (ls.take 0).flatten ls (ls.length : Int) ((0 : Nat) : Int)) (fun k => ?_) (join1 hn hl ls.length 0 (by omega))
    conv => lhs; unfold octet_Join.l0
    have := flat_le ls i
    rw [if_neg (by omega), if_pos (by omega), if_pos (by omega)]
    rfl
  | succ d ih =>
    intro i hi
    have hf := flat_take ls i (by omega)
    have hle := flat_le ls (i + 1)
    rw [hf, List.length_append] at hle
    refine Ev.step (f := fun k => octet_Join.l0 k ls ((ls.take (i + 1)).flatten.length : Int) ls (ls.length : Int) ((i + 1 : Nat) : Int)) (fun k => ?_) (ih (i + 1) (by omega))
    conv => lhs; unfold octet_Join.l0
    rw [if_pos (by omega), if_pos (by omega), if_pos (by omega), rdL2 (show i < ls.length by omega), w64 (n := (i : Int) + 1) (by omega) (by omega), w64 (by omega) (by omega), hf, List.length_append]
    rfl
theorem join_ev {ls : List (List Int)} (hn : ls.length ≤ 140737488351232) (hl : ls.flatten.length ≤ 140737488351232) : Ev (fun k => octet_Join.f k ls) ls.flatten :=
  Ev.congr (fun k => by unfold octet_Join.f; rfl) (join0 hn hl ls.length 0 (by omega))
theorem part_ev {l : List Int} (hl : l.length ≤ 140737488351232) : Ev (fun k => packet_part.f k l) l := by
  by_cases h : l.length = 0
  · obtain rfl := List.eq_nil_of_length_eq_zero h
    refine Ev.eq fun k => ?_
    unfold packet_part.f
    rw [if_pos (by simp)]
  · have e := join_ev (ls := [l]) (by simp) (by simpa using hl)
    refine Ev.congr (f := fun k => (octet_Join.f k [l]).bind fun t => some t) (fun k => ?_) ?_
    · unfold packet_part.f
      rw [if_neg (by omega)]
    · refine Ev.bind e (Ev.eq fun k => ?_)
      simp
def trailM (l : List Int) : Int := if l.length = 0 then 0 else if rd l ((l.length : Int) - 1) < 1 ∨ (l.length : Int) < rd l ((l.length : Int) - 1) then 0 else rd l ((l.length : Int) - 1)
theorem trailM_le (l : List Int) (h : trailM l ≠ 0) : 1 ≤ trailM l ∧ trailM l ≤ l.length := by
  unfold trailM at h ⊢
  split at h
  · exact absurd rfl h
  · split at h
    · exact absurd rfl h
    · rename_i h1 h2
      rw [if_neg h1, if_neg h2]
      omega
theorem trail_eq {l : List Int} (hb : Byt l) (hl : l.length ≤ 140737488351232) : pad_Trail.f l = some (if trailM l = 0 then (0, 5) else (trailM l, 0)) := by
  have hr := brd hb ((l.length : Int) - 1)
  unfold pad_Trail.f trailM
  by_cases c : l.length = 0
  · rw [if_pos (by omega), if_pos c, if_pos rfl]
  · rw [if_neg (by omega), w64 (n := (l.length : Int) - 1) (by omega) (by omega), if_pos (by omega), if_pos (by omega), w64 (by omega) (by omega), if_neg c]
    by_cases c1 : rd l ((l.length : Int) - 1) < 1
    · rw [if_pos c1, if_pos (show rd l ((l.length : Int) - 1) < 1 ∨ _ from .inl c1)]
      simp
    · rw [if_neg c1]
      by_cases c2 : (l.length : Int) < rd l ((l.length : Int) - 1)
      · rw [if_pos c2, if_pos (show _ ∨ (l.length : Int) < rd l ((l.length : Int) - 1) from .inr c2)]
        simp
      · rw [if_neg c2, if_neg (by omega), if_neg (by omega)]
structure Pk where
  h : Hd
  prof : Int
  ex : List Int
  pl : List Int
  padn : Int
def Pk.zero : Pk := ⟨.zero, 0, [], [], 0⟩
def openT (left : List Int) (h : Hd) (prof : Int) (ex : List Int) : Pk × List Int × Int :=
  if h.pad = true then (if trailM left = 0 then (.zero, [], 5) else (⟨h, prof, ex, left.take (left.length - (trailM left).toNat), trailM left⟩, left.drop (left.length - (trailM left).toNat), 0)) else (⟨h, prof, ex, left, 0⟩, [], 0)
def openE (left : List Int) (h : Hd) : Pk × List Int × Int :=
  if left.length < 4 then (.zero, [], 2) else if (left.length : Int) - 4 < 4 * (rd left 2 * 256 + rd left 3) then (.zero, [], 2) else
  openT ((left.drop 4).drop (4 * (rd left 2 * 256 + rd left 3)).toNat) h (rd left 0 * 256 + rd left 1) ((left.drop 4).take (4 * (rd left 2 * 256 + rd left 3)).toNat)
def openM (l : List Int) : Pk × List Int × Int :=
  if 65535 < l.length then (.zero, [], 4) else if (headM l).2.2 ≠ 0 then (.zero, [], (headM l).2.2) else
  if (headM l).1.ext = true then openE (l.drop (headM l).2.1.toNat) (headM l).1 else openT (l.drop (headM l).2.1.toNat) (headM l).1 0 []
abbrev oflat (o : Pk × List Int × Int) : Bool × Bool × Bool × Int × Int × Int × Int × List Int × Int × List Int × List Int × Int × List Int × Int :=
  (o.1.h.pad, o.1.h.ext, o.1.h.mark, o.1.h.typ, o.1.h.seq, o.1.h.tm, o.1.h.ssrc, o.1.h.csrc, o.1.prof, o.1.ex, o.1.pl, o.1.padn, o.2.1, o.2.2)
theorem openT_ev {left : List Int} (hb : Byt left) (hl : left.length ≤ 140737488351232) (h : Hd) (prof : Int) (ex : List Int) :
    Ev (fun k => packet_open.j0 k left h.pad h.ext h.mark h.typ h.seq h.tm h.ssrc h.csrc h.pad h.ext h.mark h.typ h.seq h.tm h.ssrc h.csrc prof ex 0) (oflat (openT left h prof ex)) := by
  unfold openT
  by_cases c : h.pad = true
  · rw [if_pos c]
    by_cases c2 : trailM left = 0
    · rw [if_pos c2]
      refine Ev.step (f := fun _ => some (oflat (.zero, [], 5))) (fun k => ?_) (Ev.now _)
      rw [packet_open.j0]
      rw [if_pos c, trail_eq hb hl, if_pos c2]
      simp only [ob]
      rw [if_neg (by decide)]
      rfl
    · have ht := trailM_le left c2
      rw [if_neg c2]
      refine Ev.step (f := fun k => (packet_part.f k (left.take (left.length - (trailM left).toNat))).bind fun t => some (h.pad, h.ext, h.mark, h.typ, h.seq, h.tm, h.ssrc, h.csrc, prof, ex, t, trailM left, left.drop (left.length - (trailM left).toNat), 0)) (fun k => ?_) ?_
      · rw [packet_open.j0]
        rw [if_pos c, trail_eq hb hl, if_neg c2]
        simp only [ob]
        rw [if_pos trivial, w64 (by omega) (by omega), if_pos (by omega), if_pos (by omega), show ((left.length : Int) - trailM left).toNat = left.length - (trailM left).toNat by omega]
      · exact Ev.bind (part_ev (by rw [List.length_take]; omega)) (Ev.now _)
  · rw [if_neg c]
    refine Ev.step (f := fun k => (packet_part.f k left).bind fun t => some (h.pad, h.ext, h.mark, h.typ, h.seq, h.tm, h.ssrc, h.csrc, prof, ex, t, 0, ([] : List Int), 0)) (fun k => ?_) ?_
    · rw [packet_open.j0]
      rw [if_neg c, Int.sub_zero, w64 (by omega) (by omega), if_pos (by omega), if_pos (by omega), Int.toNat_natCast, List.take_length, List.drop_length]
    · exact Ev.bind (part_ev hl) (Ev.now _)
theorem open_ev {l : List Int} (hb : Byt l) : Ev (fun k => packet_open.f k l) (oflat (openM l)) := by
  by_cases c : 65535 < l.length
  · refine Ev.eq fun k => ?_
    unfold packet_open.f openM
    rw [if_pos (by omega), if_pos c]
    rfl
  · have hl : l.length ≤ 140737488351232 := by omega
    simp only [packet_open.f]
    rw [show ∀ α (x y : Nat → Option α), (fun k => if (l.length : Int) > 65535 then x k else y k) = y from fun α x y => funext fun k => if_neg (by omega)]
    · refine Ev.bind (head_ev hb hl) ?_
      generalize hh : headM l = H
      have hr : H.2.2 = 0 → 12 ≤ H.2.1 ∧ H.2.1 ≤ l.length := by
        intro h0
        rw [← hh] at h0 ⊢
        unfold headM at h0 ⊢
        split at h0
        · cases h0
        · split at h0
          · cases h0
          · split at h0
            · cases h0
            · rename_i h1 h2 h3
              have := brd hb 0
              rw [if_neg h1, if_neg h2, if_neg h3]
              dsimp only
              omega
      unfold openM
      rw [if_neg c, hh]
      by_cases c1 : H.2.2 = 0
      · have hr := hr c1
        rw [if_neg (show ¬ (H.2.2 ≠ 0) by simpa using c1)]
        have hbl := hb.drop H.2.1.toNat
        have hll : (l.drop H.2.1.toNat).length = l.length - H.2.1.toNat := List.length_drop
        generalize hL : l.drop H.2.1.toNat = left at hbl hll
        by_cases c2 : H.1.ext = true
        · rw [if_pos c2]
          have r0 := brd hbl 0
          have r1 := brd hbl 1
          have r2 := brd hbl 2
          have r3 := brd hbl 3
          unfold openE
          by_cases c3 : left.length < 4
          · rw [if_pos c3]
            refine Ev.congr (f := fun _ => some (oflat (.zero, [], 2))) (fun k => ?_) (Ev.now _)
            dsimp only [hflat]
            rw [if_pos c1, if_pos (by omega), if_pos (by omega)]
            simp only [ob]
            rw [if_pos c2, if_pos (by omega)]
            rfl
          · rw [if_neg c3]
            by_cases c4 : (left.length : Int) - 4 < 4 * (rd left 2 * 256 + rd left 3)
            · rw [if_pos c4]
              refine Ev.congr (f := fun _ => some (oflat (.zero, [], 2))) (fun k => ?_) (Ev.now _)
              dsimp only [hflat]
              rw [if_pos c1, if_pos (by omega), if_pos (by omega)]
              simp only [ob]
              rw [if_pos c2, if_neg (by omega), if_pos (by omega), if_pos (by omega), if_pos (by omega), if_pos (by omega), if_pos (by omega), or_join64 r2.1 r2.2 r3.1 r3.2, w64 (by omega) (by omega), List.length_drop, if_pos (by omega)]
              rfl
            · rw [if_neg c4]
              have hbd := hbl.drop 4
              have hld : (left.drop 4).length = left.length - 4 := List.length_drop
              generalize hD : left.drop 4 = D at hbd hld
              generalize hS : 4 * (rd left 2 * 256 + rd left 3) = sz at c4
              refine Ev.congr (f := fun k => (packet_part.f k (D.take sz.toNat)).bind fun t => packet_open.j0 k (D.drop sz.toNat) H.1.pad H.1.ext H.1.mark H.1.typ H.1.seq H.1.tm H.1.ssrc H.1.csrc H.1.pad H.1.ext H.1.mark H.1.typ H.1.seq H.1.tm H.1.ssrc H.1.csrc (rd left 0 * 256 + rd left 1) t 0) (fun k => ?_) ?_
              · dsimp only [hflat]
                rw [if_pos c1, if_pos (by omega), if_pos (by omega)]
                simp only [ob]
                rw [if_pos c2, if_neg (by omega), if_pos (by omega), if_pos (by omega), if_pos (by omega), if_pos (by omega), if_pos (by omega), or_join64 r2.1 r2.2 r3.1 r3.2, w64 (by omega) (by omega), hD, hS, if_neg (by omega), if_pos (by omega), if_pos (by omega), or_join16 r0.1 r0.2 r1.1 r1.2]
              · exact Ev.bind (part_ev (by rw [List.length_take]; omega)) (openT_ev (hbd.drop _) (by rw [List.length_drop]; omega) H.1 _ _)
        · rw [if_neg c2]
          refine Ev.congr (f := fun k => packet_open.j0 k left H.1.pad H.1.ext H.1.mark H.1.typ H.1.seq H.1.tm H.1.ssrc H.1.csrc H.1.pad H.1.ext H.1.mark H.1.typ H.1.seq H.1.tm H.1.ssrc H.1.csrc 0 [] 0) (fun k => ?_) (openT_ev hbl (by omega) H.1 _ _)
          dsimp only [hflat]
          rw [if_pos c1, if_pos (by omega), if_pos (by omega)]
          simp only [ob]
          rw [if_neg c2]
      · rw [if_pos (show H.2.2 ≠ 0 from c1)]
        refine Ev.eq fun k => ?_
        dsimp only [hflat]
        rw [if_neg c1]
        rfl
abbrev pflat (o : Pk × List Int × Int) : Bool × Bool × Bool × Int × Int × Int × Int × List Int × Int × List Int × List Int × Int × Int :=
  (o.1.h.pad, o.1.h.ext, o.1.h.mark, o.1.h.typ, o.1.h.seq, o.1.h.tm, o.1.h.ssrc, o.1.h.csrc, o.1.prof, o.1.ex, o.1.pl, o.1.padn, o.2.2)
theorem read_ev {l : List Int} (hb : Byt l) : Ev (fun k => packet_Read.f k l) (pflat (openM l)) :=
  Ev.congr (fun k => by unfold packet_Read.f; rfl) (Ev.bind (open_ev hb) (Ev.now _))
end Go.Proofs.Ytcbdgknfkoodoaa.S
namespace Go.Proofs.Ytcbdgknfkoodoaa.S
open Go.RowKit Go.Proofs.YtcbdgknfkoodoaaW.PrintWords Go.Proofs.Ytcbdgknfkoodoaa.F
set_option linter.unusedVariables false
set_option linter.unusedSimpArgs false
def mk (a : Int) : List (Int × Int) → List S32
  | [] => []
  | p :: r => ⟨p.1, a, p.2⟩ :: mk (a + p.2) r
def tot : List (Int × Int) → Int
  | [] => 0
  | p :: r => p.2 + tot r
theorem tot_append (x y : List (Int × Int)) : tot (x ++ y) = tot x + tot y := by
  induction x with
  | nil => simp [tot]
  | cons p r ih => simp only [List.cons_append, tot, ih]; omega
def one (f s : Int) : List (Int × Int) := if 0 < s then [(f, s)] else []
theorem tot_one (f s : Int) (h : 0 ≤ s) : tot (one f s) = s := by
  unfold one
  split
  · simp [tot]
  · simp [tot]; omega
def segC (n : Nat) : List (Int × Int) := List.replicate n (6, 4)
def seg0 : List (Int × Int) := [(1, 1), (2, 1), (3, 2), (4, 4), (5, 4)]
def segX (p : Pk) : List (Int × Int) := if p.h.ext = true then (one 7 2 ++ one 8 2) ++ one 9 (p.ex.length : Int) else []
def segP (p : Pk) : List (Int × Int) := one 10 (p.pl.length : Int) ++ (if p.h.pad = true then one 11 (p.padn - 1) ++ one 12 1 else [])
def segs (p : Pk) : List (Int × Int) := ((seg0 ++ segC p.h.csrc.length) ++ segX p) ++ segP p
theorem tot_C (n : Nat) : tot (segC n) = 4 * n := by
  induction n with
  | zero => rfl
  | succ n ih => simp only [segC, List.replicate_succ, tot] at *; omega
def Fit (p : Pk) : Prop := p.h.csrc.length ≤ 15 ∧ p.ex.length ≤ 300000 ∧ p.pl.length ≤ 100000 ∧ 0 ≤ p.padn ∧ p.padn ≤ 255 ∧ (p.h.pad = true → 1 ≤ p.padn)
theorem openT_fit {left : List Int} (hb : Byt left) (h : Hd) (prof : Int) (ex : List Int) (h0 : (openT left h prof ex).2.2 = 0) :
    (openT left h prof ex).1.h = h ∧ (openT left h prof ex).1.ex = ex ∧ (openT left h prof ex).1.prof = prof ∧ 0 ≤ (openT left h prof ex).1.padn ∧ (openT left h prof ex).1.padn ≤ 255 ∧ (h.pad = true → 1 ≤ (openT left h prof ex).1.padn) ∧ (h.pad = false → (openT left h prof ex).1.padn = 0) ∧
    ((openT left h prof ex).1.pl.length : Int) + (openT left h prof ex).1.padn = left.length := by
  unfold openT at h0 ⊢
  by_cases c : h.pad = true
  · rw [if_pos c] at h0 ⊢
    by_cases c2 : trailM left = 0
    · rw [if_pos c2] at h0
      exact absurd h0 (by decide)
    · rw [if_neg c2]
      have ht := trailM_le left c2
      have h255 : trailM left ≤ 255 := by
        unfold trailM
        split
        · omega
        · split
          · omega
          · exact (brd hb _).2
      refine ⟨rfl, rfl, rfl, by dsimp only; omega, h255, fun _ => ht.1, fun hc => by simp [c] at hc, ?_⟩
      dsimp only
      rw [List.length_take]
      omega
  · rw [if_neg c]
    exact ⟨rfl, rfl, rfl, Int.le_refl _, by simp, fun h => absurd h c, fun _ => rfl, by simp⟩
theorem head_fit {l : List Int} (hb : Byt l) (h0 : (headM l).2.2 = 0) : (headM l).1.csrc.length ≤ 15 ∧ (headM l).2.1 = 12 + 4 * ((headM l).1.csrc.length : Int) ∧ (headM l).2.1 ≤ l.length := by
  unfold headM at h0 ⊢
  split at h0
  · exact absurd h0 (by decide)
  · split at h0
    · exact absurd h0 (by decide)
    · split at h0
      · exact absurd h0 (by decide)
      · rename_i h1 h2 h3
        have := brd hb 0
        rw [if_neg h1, if_neg h2, if_neg h3]
        simp only [words, List.length_map, List.length_range]
        omega
theorem open_fit {l : List Int} (hb : Byt l) (h : (openM l).2.2 = 0) : Fit (openM l).1 ∧ tot (segs (openM l).1) = l.length := by
  have key : ∀ (p : Pk), (p.h.pad = true → 1 ≤ p.padn) → (p.h.pad = false → p.padn = 0) → 0 ≤ p.padn → tot (segs p) = 12 + 4 * (p.h.csrc.length : Int) + (if p.h.ext = true then 4 + (p.ex.length : Int) else 0) + p.pl.length + p.padn := by
    intro p h1 h2 h3
    unfold segs segP segX
    rw [tot_append, tot_append, tot_append, tot_append, tot_C, tot_one _ _ (by omega), show tot seg0 = 12 from rfl]
    have e1 : tot (if p.h.ext = true then one 7 2 ++ one 8 2 ++ one 9 (p.ex.length : Int) else []) = if p.h.ext = true then 4 + (p.ex.length : Int) else 0 := by
      split
      · rw [tot_append, tot_append, tot_one _ _ (by omega), tot_one _ _ (by omega), tot_one _ _ (by omega)]; omega
      · rfl
    have e2 : tot (if p.h.pad = true then one 11 (p.padn - 1) ++ one 12 1 else []) = p.padn := by
      by_cases c : p.h.pad = true
      · have := h1 c
        rw [if_pos c, tot_append, tot_one _ _ (by omega), tot_one _ _ (by omega)]; omega
      · rw [if_neg c, h2 (by simpa using c)]; rfl
    rw [e1, e2]
    omega
  unfold openM at h ⊢
  by_cases c : 65535 < l.length
  · rw [if_pos c] at h; exact absurd h (by decide)
  · rw [if_neg c] at h ⊢
    by_cases c1 : (headM l).2.2 ≠ 0
    · rw [if_pos c1] at h; exact absurd h c1
    · rw [if_neg c1] at h ⊢
      have hf := head_fit hb (by simpa using c1)
      generalize headM l = H at h hf c1 ⊢
      have hbl := hb.drop H.2.1.toNat
      have hll : (l.drop H.2.1.toNat).length = l.length - H.2.1.toNat := List.length_drop
      generalize l.drop H.2.1.toNat = left at h hbl hll ⊢
      by_cases c2 : H.1.ext = true
      · rw [if_pos c2] at h ⊢
        unfold openE at h ⊢
        by_cases c3 : left.length < 4
        · rw [if_pos c3] at h; exact absurd h (by decide)
        · rw [if_neg c3] at h ⊢
          by_cases c4 : (left.length : Int) - 4 < 4 * (rd left 2 * 256 + rd left 3)
          · rw [if_pos c4] at h; exact absurd h (by decide)
          · rw [if_neg c4] at h ⊢
            have r2 := brd hbl 2
            have r3 := brd hbl 3
            obtain ⟨e1, e2, e3, e4, e5, e6, e7, e8⟩ := openT_fit ((hbl.drop 4).drop _) H.1 (rd left 0 * 256 + rd left 1) ((left.drop 4).take (4 * (rd left 2 * 256 + rd left 3)).toNat) h
            generalize openT ((left.drop 4).drop (4 * (rd left 2 * 256 + rd left 3)).toNat) H.1 (rd left 0 * 256 + rd left 1) ((left.drop 4).take (4 * (rd left 2 * 256 + rd left 3)).toNat) = o at e1 e2 e3 e4 e5 e6 e7 e8 ⊢
            have hx : o.1.ex.length = (4 * (rd left 2 * 256 + rd left 3)).toNat := by rw [e2, List.length_take, List.length_drop]; omega
            rw [List.length_drop, List.length_drop] at e8
            have kk := key o.1 (by rw [e1]; exact e6) (by rw [e1]; exact e7) e4
            rw [if_pos (by rw [e1]; exact c2), e1] at kk
            refine ⟨⟨by rw [e1]; exact hf.1, by omega, by omega, e4, e5, by rw [e1]; exact e6⟩, ?_⟩
            omega
      · rw [if_neg c2] at h ⊢
        obtain ⟨e1, e2, e3, e4, e5, e6, e7, e8⟩ := openT_fit hbl H.1 0 [] h
        generalize openT left H.1 0 [] = o at e1 e2 e3 e4 e5 e6 e7 e8 ⊢
        have kk := key o.1 (by rw [e1]; exact e6) (by rw [e1]; exact e7) e4
        rw [if_neg (by rw [e1]; exact c2), e1] at kk
        refine ⟨⟨by rw [e1]; exact hf.1, by rw [e2]; decide, by omega, e4, e5, by rw [e1]; exact e6⟩, ?_⟩
        omega
end Go.Proofs.Ytcbdgknfkoodoaa.S
namespace Go.Proofs.Ytcbdgknfkoodoaa.S
open Go.RowKit Go.Proofs.YtcbdgknfkoodoaaW.PrintWords Go.Proofs.Ytcbdgknfkoodoaa.F
set_option linter.unusedVariables false
set_option linter.unusedSimpArgs false
theorem cutn_len {l : List Int} {a n : Nat} (h : a + n ≤ l.length) : (cutn l a n).length = n := by simp [cutn]; omega
theorem cutn_byt {l : List Int} (hb : Byt l) (a n : Nat) : Byt (cutn l a n) := (hb.drop a).take n
end Go.Proofs.Ytcbdgknfkoodoaa.S
namespace Go.Proofs.Ytcbdgknfkoodoaa.S
open Go.RowKit Go.Proofs.YtcbdgknfkoodoaaW.PrintWords
set_option linter.unusedVariables false
set_option linter.unusedSimpArgs false
def w4 (v : Int) : List Int := [v / 16777216 % 256, v / 65536 % 256, v / 256 % 256, v % 256]
theorem be_w4 {v : Int} (h0 : 0 ≤ v) (h1 : v < 4294967296) : be 0 (w4 v) = v := by
  simp only [w4, be, List.foldl]
  omega
theorem w4_be {y : List Int} (hb : Byt y) (h : y.length = 4) : w4 (be 0 y) = y := by
  match y, h with
  | [a, b, c, d], _ =>
    have ha := hb a (by simp)
    have hb' := hb b (by simp)
    have hc := hb c (by simp)
    have hd := hb d (by simp)
    simp only [w4, be, List.foldl, List.cons.injEq, and_true]
    omega
theorem w4_byt (v : Int) : Byt (w4 v) := by
  intro x hx
  simp only [w4, List.mem_cons, List.not_mem_nil, or_false] at hx
  omega
theorem w4_len (v : Int) : (w4 v).length = 4 := rfl
theorem cutn_at (x y : List Int) (n : Nat) : cutn (x ++ y) x.length n = y.take n := by simp [cutn]
theorem w32_at (x r : List Int) {v : Int} (h0 : 0 ≤ v) (h1 : v < 4294967296) : w32 (x ++ (w4 v ++ r)) x.length = v := by
  rw [w32, cutn_at, List.take_append_of_le_length (by rw [w4_len]; omega), List.take_of_length_le (by rw [w4_len]; omega), be_w4 h0 h1]
theorem words_succ (l : List Int) (a n : Nat) : words l a (n + 1) = w32 l a :: words l (a + 4) n := by
  simp only [words, List.range_succ_eq_map, List.map_cons, List.map_map]
  congr 1
  apply List.map_congr_left
  intro i _
  simp only [Function.comp]
  congr 1
  omega
theorem words_len (l : List Int) (a n : Nat) : (words l a n).length = n := by simp [words]
theorem words_at (cs r : List Int) (hc : ∀ v ∈ cs, 0 ≤ v ∧ v < 4294967296) : ∀ x : List Int, words (x ++ (cs.flatMap w4 ++ r)) x.length cs.length = cs := by
  induction cs with
  | nil => intro x; rfl
  | cons c cs ih =>
    intro x
    have hv := hc c (by simp)
    have := ih (fun v hv => hc v (by simp [hv])) (x ++ w4 c)
    rw [List.length_append, w4_len, List.append_assoc] at this
    rw [List.length_cons, words_succ, List.flatMap_cons, List.append_assoc, w32_at _ _ hv.1 hv.2, this]
theorem cutn_add (l : List Int) (a m n : Nat) : cutn l a (m + n) = cutn l a m ++ cutn l (a + m) n := by
  simp only [cutn, List.take_add, List.drop_drop]
theorem words_flat {l : List Int} (hb : Byt l) (n : Nat) : ∀ a, a + 4 * n ≤ l.length → (words l a n).flatMap w4 = cutn l a (4 * n) := by
  induction n with
  | zero => intro a _; simp [words, cutn]
  | succ n ih =>
    intro a h
    rw [words_succ, List.flatMap_cons, ih (a + 4) (by omega), w32, w4_be (cutn_byt hb a 4) (cutn_len (by omega)), show 4 * (n + 1) = 4 + 4 * n by omega, cutn_add]
theorem flatMap_w4_len (cs : List Int) : (cs.flatMap w4).length = 4 * cs.length := by
  induction cs with
  | nil => rfl
  | cons c cs ih => rw [List.flatMap_cons, List.length_append, ih, w4_len, List.length_cons]; omega
def bi (b : Bool) (n : Int) : Int := if b = true then n else 0
def hb0 (h : Hd) : Int := 128 + h.csrc.length + bi h.pad 32 + bi h.ext 16
def hb1 (h : Hd) : Int := h.typ + bi h.mark 128
def hdr (h : Hd) : List Int := hb0 h :: hb1 h :: (h.seq / 256 % 256) :: (h.seq % 256) :: (w4 h.tm ++ (w4 h.ssrc ++ h.csrc.flatMap w4))
theorem hdr_len (h : Hd) : (hdr h).length = 12 + 4 * h.csrc.length := by
  simp only [hdr, List.length_cons, List.length_append, w4_len, flatMap_w4_len]
  omega
structure HOk (h : Hd) : Prop where
  typ : 0 ≤ h.typ ∧ h.typ ≤ 127
  n : h.csrc.length ≤ 15
  seq : 0 ≤ h.seq ∧ h.seq ≤ 65535
  tm : 0 ≤ h.tm ∧ h.tm < 4294967296
  ssrc : 0 ≤ h.ssrc ∧ h.ssrc < 4294967296
  csrc : ∀ v ∈ h.csrc, 0 ≤ v ∧ v < 4294967296
theorem bi_or (b : Bool) (n : Int) : b = true ∧ bi b n = n ∨ b = false ∧ bi b n = 0 := by cases b <;> simp [bi]
theorem dtf {p : Prop} [Decidable p] {b : Bool} (h : p ↔ b = true) : decide p = b := by
  cases b
  · exact decide_eq_false (fun hp => by simpa using h.1 hp)
  · exact decide_eq_true (h.2 rfl)
theorem head_hdr {h : Hd} (ok : HOk h) (r : List Int) : headM (hdr h ++ r) = (h, 12 + 4 * (h.csrc.length : Int), 0) := by
  have hl := hdr_len h
  have n := ok.n
  have ty := ok.typ
  have sq := ok.seq
  have e0 : rd (hdr h ++ r) 0 = hb0 h := rfl
  have e1 : rd (hdr h ++ r) 1 = hb1 h := rfl
  have e2 : rd (hdr h ++ r) 2 = h.seq / 256 % 256 := rfl
  have e3 : rd (hdr h ++ r) 3 = h.seq % 256 := rfl
  have p := bi_or h.pad 32
  have x := bi_or h.ext 16
  have m := bi_or h.mark 128
  have t4 : w32 (hdr h ++ r) 4 = h.tm := by
    have := w32_at [hb0 h, hb1 h, h.seq / 256 % 256, h.seq % 256] (w4 h.ssrc ++ (h.csrc.flatMap w4 ++ r)) ok.tm.1 ok.tm.2
    rw [← this]
    simp [hdr]
  have t8 : w32 (hdr h ++ r) 8 = h.ssrc := by
    have := w32_at ([hb0 h, hb1 h, h.seq / 256 % 256, h.seq % 256] ++ w4 h.tm) (h.csrc.flatMap w4 ++ r) ok.ssrc.1 ok.ssrc.2
    rw [← this]
    simp [hdr, w4_len]
  have t12 : words (hdr h ++ r) 12 h.csrc.length = h.csrc := by
    have := words_at h.csrc r ok.csrc ([hb0 h, hb1 h, h.seq / 256 % 256, h.seq % 256] ++ w4 h.tm ++ w4 h.ssrc)
    conv => rhs; rw [← this]
    simp [hdr, w4_len]
  unfold headM
  rw [e0, e1, e2, e3, t4, t8]
  unfold hb0 hb1
  have q0 : (128 + (h.csrc.length : Int) + bi h.pad 32 + bi h.ext 16) % 16 = h.csrc.length := by omega
  rw [q0, Int.toNat_natCast, t12, if_neg (by rw [List.length_append]; omega), if_neg (by omega), if_neg (by rw [List.length_append]; omega)]
  rw [dtf (b := h.pad) (by rcases p with ⟨a, b⟩ | ⟨a, b⟩ <;> rw [b, a] <;> simp <;> omega), dtf (b := h.ext) (by rcases p with ⟨_, b'⟩ | ⟨_, b'⟩ <;> rcases x with ⟨a, b⟩ | ⟨a, b⟩ <;> rw [b', b, a] <;> simp <;> omega), dtf (b := h.mark) (by rcases m with ⟨a, b⟩ | ⟨a, b⟩ <;> rw [b, a] <;> simp <;> omega)]
  rw [show (h.typ + bi h.mark 128) % 128 = h.typ by omega, show h.seq / 256 % 256 * 256 + h.seq % 256 = h.seq by omega]
theorem hdr_head {l : List Int} (hb : Byt l) (h0 : (headM l).2.2 = 0) : HOk (headM l).1 ∧ l = hdr (headM l).1 ++ l.drop (headM l).2.1.toNat := by
  have r0 := brd hb 0
  have r1 := brd hb 1
  have r2 := brd hb 2
  have r3 := brd hb 3
  unfold headM at h0 ⊢
  by_cases c1 : l.length < 12
  · rw [if_pos c1] at h0; exact absurd h0 (by decide)
  · rw [if_neg c1] at h0 ⊢
    by_cases c2 : rd l 0 / 64 ≠ 2
    · rw [if_pos c2] at h0; exact absurd h0 (by decide)
    · rw [if_neg c2] at h0 ⊢
      by_cases c3 : (l.length : Int) < 12 + 4 * (rd l 0 % 16)
      · rw [if_pos c3] at h0; exact absurd h0 (by decide)
      · rw [if_neg c3]
        have hn : ((rd l 0 % 16).toNat : Int) = rd l 0 % 16 := by omega
        generalize hN : (rd l 0 % 16).toNat = N at hn
        refine ⟨⟨by dsimp only; omega, by dsimp only; rw [words_len]; omega, by dsimp only; omega, w32_range hb 4 (by omega), w32_range hb 8 (by omega), ?_⟩, ?_⟩
        · intro v hv
          simp only [words, List.mem_map, List.mem_range] at hv
          obtain ⟨i, hi, rfl⟩ := hv
          exact w32_range hb _ (by omega)
        · dsimp only
          unfold hdr hb0 hb1
          dsimp only
          rw [words_len, words_flat hb N 12 (by omega), w32, w32, w4_be (cutn_byt hb 4 4) (cutn_len (by omega)), w4_be (cutn_byt hb 8 4) (cutn_len (by omega))]
          have q0 : 128 + (N : Int) + bi (decide (rd l 0 / 32 % 2 = 1)) 32 + bi (decide (rd l 0 / 16 % 2 = 1)) 16 = rd l 0 := by
            unfold bi
            simp only [decide_eq_true_eq]
            split <;> split <;> omega
          have q1 : rd l 1 % 128 + bi (decide (128 ≤ rd l 1)) 128 = rd l 1 := by
            unfold bi
            simp only [decide_eq_true_eq]
            split <;> omega
          rw [q0, q1, show (rd l 2 * 256 + rd l 3) / 256 % 256 = rd l 2 by omega, show (rd l 2 * 256 + rd l 3) % 256 = rd l 3 by omega, show (12 + 4 * (rd l 0 % 16)).toNat = 12 + 4 * N by omega]
          have d0 : l = rd l 0 :: l.drop 1 := by have := List.drop_eq_getElem_cons (show 0 < l.length by omega); rw [List.drop_zero] at this; rw [rd_eq (by omega) (by omega)]; exact this
          have d1 : l.drop 1 = rd l 1 :: l.drop 2 := by have := List.drop_eq_getElem_cons (show 1 < l.length by omega); rw [rd_eq (by omega) (by omega)]; exact this
          have d2 : l.drop 2 = rd l 2 :: l.drop 3 := by have := List.drop_eq_getElem_cons (show 2 < l.length by omega); rw [rd_eq (by omega) (by omega)]; exact this
          have d3 : l.drop 3 = rd l 3 :: l.drop 4 := by have := List.drop_eq_getElem_cons (show 3 < l.length by omega); rw [rd_eq (by omega) (by omega)]; exact this
          have d4 : l.drop 4 = cutn l 4 4 ++ l.drop 8 := by unfold cutn; rw [show l.drop 8 = (l.drop 4).drop 4 by rw [List.drop_drop], List.take_append_drop]
          have d8 : l.drop 8 = cutn l 8 4 ++ l.drop 12 := by unfold cutn; rw [show l.drop 12 = (l.drop 8).drop 4 by rw [List.drop_drop], List.take_append_drop]
          have d12 : l.drop 12 = cutn l 12 (4 * N) ++ l.drop (12 + 4 * N) := by unfold cutn; rw [← List.drop_drop, List.take_append_drop]
          conv => lhs; rw [d0, d1, d2, d3, d4, d8, d12]
          simp only [List.cons_append, List.append_assoc]
structure POk (p : Pk) : Prop where
  h : HOk p.h
  prof : 0 ≤ p.prof ∧ p.prof ≤ 65535
  ex : Byt p.ex
  pl : Byt p.pl
  ex4 : p.ex.length % 4 = 0
  exn : p.ex.length / 4 ≤ 65535
  none : p.h.ext = false → p.prof = 0 ∧ p.ex = []
  padt : p.h.pad = true → 1 ≤ p.padn ∧ p.padn ≤ 255
  padf : p.h.pad = false → p.padn = 0
def sumM (p : Pk) : Int := 12 + 4 * (p.h.csrc.length : Int) + p.pl.length + p.padn + (if p.h.ext = true then 4 + (p.ex.length : Int) else 0)
def extB (p : Pk) : List Int := if p.h.ext = true then (p.prof / 256 % 256) :: (p.prof % 256) :: ((p.ex.length : Int) / 4 / 256 % 256) :: ((p.ex.length : Int) / 4 % 256) :: p.ex else []
def fore (p : Pk) : List Int := hdr p.h ++ (extB p ++ p.pl)
def fill (p : Pk) : List Int := if p.h.pad = true then List.replicate (p.padn.toNat - 1) 0 ++ [p.padn] else []
def writeM (p : Pk) : List Int := fore p ++ fill p
structure Tr (p : Pk) (t : List Int) : Prop where
  byt : Byt t
  len : (t.length : Int) = p.padn
  last : p.h.pad = true → rd t ((t.length : Int) - 1) = p.padn
theorem fore_len (p : Pk) : ((fore p).length : Int) + p.padn = sumM p := by
  unfold fore extB sumM
  rw [List.length_append, List.length_append, hdr_len]
  by_cases c : p.h.ext = true
  · simp only [if_pos c, List.length_cons]; omega
  · simp only [if_neg c, List.length_nil]; omega
theorem fill_tr {p : Pk} (ok : POk p) : Tr p (fill p) := by
  unfold fill
  by_cases c : p.h.pad = true
  · have := ok.padt c
    rw [if_pos c]
    refine ⟨?_, by simp; omega, fun _ => ?_⟩
    · intro x hx
      rcases List.mem_append.1 hx with hx | hx
      · have := (List.mem_replicate.1 hx).2; omega
      · simp at hx; omega
    · unfold rd
      have e : ((((List.replicate (p.padn.toNat - 1) (0 : Int)) ++ [p.padn]).length : Int) - 1).toNat = (List.replicate (p.padn.toNat - 1) (0 : Int)).length := by simp
      rw [e, List.getD_eq_getElem?_getD, List.getElem?_append_right (Nat.le_refl _)]
      simp
  · rw [if_neg c]
    exact ⟨fun x hx => by simp at hx, by simp [ok.padf (by simpa using c)], fun h => absurd h c⟩
theorem trail_at {p : Pk} (ok : POk p) {t : List Int} (tr : Tr p t) (y : List Int) (c : p.h.pad = true) : trailM (y ++ t) = p.padn := by
  have hp := ok.padt c
  have hl := tr.len
  have e : rd (y ++ t) (((y ++ t).length : Int) - 1) = p.padn := by
    rw [← tr.last c]
    unfold rd
    rw [List.getD_eq_getElem?_getD, List.getD_eq_getElem?_getD, List.length_append, List.getElem?_append_right (by omega)]
    congr 2
    omega
  unfold trailM
  rw [e, if_neg (by rw [List.length_append]; omega), if_neg (by rw [List.length_append]; omega)]
theorem openT_at {p : Pk} (ok : POk p) {t : List Int} (tr : Tr p t) (ext : p.h.ext = false → p.prof = 0 ∧ p.ex = []) : openT (p.pl ++ t) p.h p.prof p.ex = (p, t, 0) := by
  have hl := tr.len
  unfold openT
  by_cases c : p.h.pad = true
  · have hp := ok.padt c
    rw [if_pos c, trail_at ok tr p.pl c, if_neg (by omega), List.length_append, show p.pl.length + t.length - p.padn.toNat = p.pl.length by omega, List.take_left, List.drop_left]
  · have := ok.padf (by simpa using c)
    have ht : t = [] := List.eq_nil_of_length_eq_zero (by omega)
    rw [if_neg c, ht, List.append_nil]
    congr 1
    cases p
    simp_all
theorem open_at {p : Pk} (ok : POk p) {t : List Int} (tr : Tr p t) (hs : sumM p ≤ 65535) : openM (fore p ++ t) = (p, t, 0) := by
  have hl := tr.len
  have hf := fore_len p
  unfold openM
  rw [if_neg (by rw [List.length_append]; omega)]
  have e : fore p ++ t = hdr p.h ++ (extB p ++ (p.pl ++ t)) := by unfold fore; simp only [List.append_assoc]
  have hd := head_hdr ok.h (extB p ++ (p.pl ++ t))
  rw [e, hd]
  dsimp only
  rw [if_neg (by simp), show (12 + 4 * (p.h.csrc.length : Int)).toNat = (hdr p.h).length by rw [hdr_len]; omega, List.drop_left]
  unfold extB
  by_cases c : p.h.ext = true
  · rw [if_pos c, if_pos c]
    unfold openE
    have hp := ok.prof
    have h4 := ok.ex4
    have hn := ok.exn
    simp only [List.cons_append, List.length_cons, List.length_append]
    rw [if_neg (by omega)]
    have g0 : ∀ (a b c d : Int) (r : List Int), rd (a :: b :: c :: d :: r) 0 = a ∧ rd (a :: b :: c :: d :: r) 1 = b ∧ rd (a :: b :: c :: d :: r) 2 = c ∧ rd (a :: b :: c :: d :: r) 3 = d := fun a b c d r => ⟨rfl, rfl, rfl, rfl⟩
    have g := g0 (p.prof / 256 % 256) (p.prof % 256) ((p.ex.length : Int) / 4 / 256 % 256) ((p.ex.length : Int) / 4 % 256) (p.ex ++ (p.pl ++ t))
    rw [g.1, g.2.1, g.2.2.1, g.2.2.2, show p.prof / 256 % 256 * 256 + p.prof % 256 = p.prof by omega, show 4 * ((p.ex.length : Int) / 4 / 256 % 256 * 256 + (p.ex.length : Int) / 4 % 256) = p.ex.length by omega, if_neg (by omega), Int.toNat_natCast]
    show openT ((p.ex ++ (p.pl ++ t)).drop p.ex.length) p.h p.prof ((p.ex ++ (p.pl ++ t)).take p.ex.length) = _
    rw [List.drop_left, List.take_left]
    exact openT_at ok tr (fun h => absurd c (by rw [h]; decide))
  · have hz := ok.none (by simpa using c)
    rw [if_neg c, if_neg c, List.nil_append]
    have := openT_at ok tr (fun _ => hz)
    rw [hz.1, hz.2] at this
    exact this
theorem openT_of {left : List Int} (hb : Byt left) (h : Hd) (prof : Int) (ex : List Int) (h0 : (openT left h prof ex).2.2 = 0) :
    left = (openT left h prof ex).1.pl ++ (openT left h prof ex).2.1 ∧ Tr (openT left h prof ex).1 (openT left h prof ex).2.1 := by
  have ft := openT_fit hb h prof ex h0
  unfold openT at h0 ft ⊢
  by_cases c : h.pad = true
  · rw [if_pos c] at h0 ft ⊢
    by_cases c2 : trailM left = 0
    · rw [if_pos c2] at h0; exact absurd h0 (by decide)
    · rw [if_neg c2] at ft ⊢
      have ht := trailM_le left c2
      dsimp only at ft ⊢
      refine ⟨(List.take_append_drop _ _).symm, hb.drop _, by rw [List.length_drop]; dsimp only; omega, fun _ => ?_⟩
      dsimp only
      have e : trailM left = rd left ((left.length : Int) - 1) := by
        unfold trailM at c2 ⊢
        split
        · rename_i z; rw [if_pos z] at c2; exact absurd rfl c2
        · rename_i z
          rw [if_neg z] at c2
          split
          · rename_i z2; rw [if_pos z2] at c2; exact absurd rfl c2
          · rfl
      conv => rhs; rw [e]
      unfold rd
      rw [List.getD_eq_getElem?_getD, List.getD_eq_getElem?_getD, List.getElem?_drop, List.length_drop]
      congr 2
      omega
  · rw [if_neg c]
    exact ⟨by simp, fun x hx => by simp at hx, rfl, fun h => absurd h c⟩
theorem open_of {l : List Int} (hb : Byt l) (h0 : (openM l).2.2 = 0) : POk (openM l).1 ∧ Tr (openM l).1 (openM l).2.1 ∧ l = fore (openM l).1 ++ (openM l).2.1 ∧ l.length ≤ 65535 := by
  unfold openM at h0 ⊢
  by_cases c : 65535 < l.length
  · rw [if_pos c] at h0; exact absurd h0 (by decide)
  · rw [if_neg c] at h0 ⊢
    by_cases c1 : (headM l).2.2 ≠ 0
    · rw [if_pos c1] at h0; exact absurd h0 c1
    · rw [if_neg c1] at h0 ⊢
      have hh := hdr_head hb (by simpa using c1)
      have hf := head_fit hb (by simpa using c1)
      generalize headM l = H at h0 hh hf c1 ⊢
      obtain ⟨hok, hl⟩ := hh
      have hbl := hb.drop H.2.1.toNat
      have hll : (l.drop H.2.1.toNat).length = l.length - H.2.1.toNat := List.length_drop
      generalize hL : l.drop H.2.1.toNat = left at h0 hl hbl hll ⊢
      by_cases c2 : H.1.ext = true
      · rw [if_pos c2] at h0 ⊢
        unfold openE at h0 ⊢
        by_cases c3 : left.length < 4
        · rw [if_pos c3] at h0; exact absurd h0 (by decide)
        · rw [if_neg c3] at h0 ⊢
          by_cases c4 : (left.length : Int) - 4 < 4 * (rd left 2 * 256 + rd left 3)
          · rw [if_pos c4] at h0; exact absurd h0 (by decide)
          · rw [if_neg c4] at h0 ⊢
            have r0 := brd hbl 0
            have r1 := brd hbl 1
            have r2 := brd hbl 2
            have r3 := brd hbl 3
            have fo := openT_of ((hbl.drop 4).drop _) H.1 (rd left 0 * 256 + rd left 1) ((left.drop 4).take (4 * (rd left 2 * 256 + rd left 3)).toNat) h0
            obtain ⟨e1, e2, e3, e4, e5, e6, e7, e8⟩ := openT_fit ((hbl.drop 4).drop _) H.1 (rd left 0 * 256 + rd left 1) ((left.drop 4).take (4 * (rd left 2 * 256 + rd left 3)).toNat) h0
            generalize openT ((left.drop 4).drop (4 * (rd left 2 * 256 + rd left 3)).toNat) H.1 (rd left 0 * 256 + rd left 1) ((left.drop 4).take (4 * (rd left 2 * 256 + rd left 3)).toNat) = o at e1 e2 e3 e4 e5 e6 e7 e8 fo ⊢
            have hx : o.1.ex.length = (4 * (rd left 2 * 256 + rd left 3)).toNat := by rw [e2, List.length_take, List.length_drop]; omega
            refine ⟨⟨e1 ▸ hok, by rw [e3]; omega, by rw [e2]; exact (hbl.drop 4).take _, ?_, by rw [hx]; omega, by rw [hx]; omega, fun h => absurd c2 (by rw [e1] at h; rw [h]; decide), fun h => ⟨e6 (e1 ▸ h), e5⟩, fun h => e7 (e1 ▸ h)⟩, fo.2, ?_, by omega⟩
            · intro x hx
              exact ((hbl.drop 4).drop (4 * (rd left 2 * 256 + rd left 3)).toNat) x (by rw [fo.1]; exact List.mem_append_left _ hx)
            · unfold fore extB
              rw [e1, if_pos c2, e3, hx]
              have q2 : (((4 * (rd left 2 * 256 + rd left 3)).toNat : Nat) : Int) = 4 * (rd left 2 * 256 + rd left 3) := by omega
              rw [q2, show (rd left 0 * 256 + rd left 1) / 256 % 256 = rd left 0 by omega, show (rd left 0 * 256 + rd left 1) % 256 = rd left 1 by omega, show 4 * (rd left 2 * 256 + rd left 3) / 4 / 256 % 256 = rd left 2 by omega, show 4 * (rd left 2 * 256 + rd left 3) / 4 % 256 = rd left 3 by omega]
              have d0 : left = rd left 0 :: left.drop 1 := by have := List.drop_eq_getElem_cons (show 0 < left.length by omega); rw [List.drop_zero] at this; rw [rd_eq (by omega) (by omega)]; exact this
              have d1 : left.drop 1 = rd left 1 :: left.drop 2 := by have := List.drop_eq_getElem_cons (show 1 < left.length by omega); rw [rd_eq (by omega) (by omega)]; exact this
              have d2 : left.drop 2 = rd left 2 :: left.drop 3 := by have := List.drop_eq_getElem_cons (show 2 < left.length by omega); rw [rd_eq (by omega) (by omega)]; exact this
              have d3 : left.drop 3 = rd left 3 :: left.drop 4 := by have := List.drop_eq_getElem_cons (show 3 < left.length by omega); rw [rd_eq (by omega) (by omega)]; exact this
              have d4 : left.drop 4 = o.1.ex ++ (o.1.pl ++ o.2.1) := by rw [← fo.1, e2, List.take_append_drop]
              rw [d4] at d3
              rw [d3] at d2
              rw [d2] at d1
              rw [d1] at d0
              conv => lhs; rw [hl, d0]
              simp only [List.cons_append, List.append_assoc]
      · rw [if_neg c2] at h0 ⊢
        have fo := openT_of hbl H.1 0 [] h0
        obtain ⟨e1, e2, e3, e4, e5, e6, e7, e8⟩ := openT_fit hbl H.1 0 [] h0
        generalize openT left H.1 0 [] = o at e1 e2 e3 e4 e5 e6 e7 e8 fo ⊢
        refine ⟨⟨e1 ▸ hok, by rw [e3]; omega, by rw [e2]; intro x hx; simp at hx, ?_, by rw [e2]; rfl, by rw [e2]; decide, fun _ => ⟨e3, e2⟩, fun h => ⟨e6 (e1 ▸ h), e5⟩, fun h => e7 (e1 ▸ h)⟩, fo.2, ?_, by omega⟩
        · intro x hx
          exact hbl x (by rw [fo.1]; exact List.mem_append_left _ hx)
        · unfold fore extB
          rw [e1, if_neg c2, List.nil_append, List.append_assoc, ← fo.1]
          exact hl
end Go.Proofs.Ytcbdgknfkoodoaa.S
namespace Go.Proofs.Ytcbdgknfkoodoaa.S
open Go.RowKit Go.Proofs.YtcbdgknfkoodoaaW.PrintWords Go.Proofs.Ytcbdgknfkoodoaa.F
set_option linter.unusedVariables false
set_option linter.unusedSimpArgs false
def FitsP (p : Pk) : Prop := ((0 ≤ p.h.typ ∧ p.h.typ ≤ 127) ∧ p.h.csrc.length ≤ 15) ∧ (p.ex.length % 4 = 0 ∧ p.ex.length / 4 ≤ 65535) ∧ (p.h.ext = false → p.prof = 0 ∧ p.ex.length = 0) ∧ (p.h.pad = true → 1 ≤ p.padn ∧ p.padn ≤ 255) ∧ (p.h.pad = false → p.padn = 0)
instance (p : Pk) : Decidable (FitsP p) := by unfold FitsP; infer_instance
def RightP (p : Pk) : Prop := FitsP p ∧ sumM p ≤ 65535
instance (p : Pk) : Decidable (RightP p) := by unfold RightP; infer_instance
structure In (p : Pk) : Prop where
  seq : 0 ≤ p.h.seq ∧ p.h.seq ≤ 65535
  tm : 0 ≤ p.h.tm ∧ p.h.tm < 4294967296
  ssrc : 0 ≤ p.h.ssrc ∧ p.h.ssrc < 4294967296
  csrc : ∀ v ∈ p.h.csrc, 0 ≤ v ∧ v < 4294967296
  prof : 0 ≤ p.prof ∧ p.prof ≤ 65535
  ex : Byt p.ex
  pl : Byt p.pl
  exl : p.ex.length ≤ 300000
  pll : p.pl.length ≤ 70000
theorem In.ok {p : Pk} (i : In p) (f : FitsP p) : POk p :=
  ⟨⟨f.1.1, f.1.2, i.seq, i.tm, i.ssrc, i.csrc⟩, i.prof, i.ex, i.pl, f.2.1.1, f.2.1.2, fun h => ⟨(f.2.2.1 h).1, List.eq_nil_of_length_eq_zero (f.2.2.1 h).2⟩, f.2.2.2.1, f.2.2.2.2⟩
theorem POk.fits {p : Pk} (ok : POk p) : FitsP p := ⟨⟨ok.h.typ, ok.h.n⟩, ⟨ok.ex4, ok.exn⟩, fun h => ⟨(ok.none h).1, by rw [(ok.none h).2]; rfl⟩, ok.padt, ok.padf⟩
theorem hright_eq (h : Hd) : head_Right.f h.pad h.ext h.mark h.typ h.seq h.tm h.ssrc h.csrc = some (decide ((0 ≤ h.typ ∧ h.typ ≤ 127) ∧ h.csrc.length ≤ 15)) := by
  unfold head_Right.f
  by_cases c1 : 0 ≤ h.typ
  · rw [if_pos (show h.typ ≥ 0 from c1)]
    by_cases c2 : h.typ ≤ 127
    · rw [if_pos c2]
      congr 1
      rw [decide_eq_decide]
      omega
    · rw [if_neg c2, decide_eq_false (fun h => c2 h.1.2)]
  · rw [if_neg (show ¬ (h.typ ≥ 0) from c1), decide_eq_false (fun h => c1 h.1.1)]
theorem fits_ev (p : Pk) (hx : p.ex.length ≤ 300000) : Ev (fun k => packet_fits.f k p.h.pad p.h.ext p.h.mark p.h.typ p.h.seq p.h.tm p.h.ssrc p.h.csrc p.prof p.ex p.pl p.padn) (decide (FitsP p)) := by
  have j0t : Ev (fun k => packet_fits.j0 k true p.h.pad p.h.ext p.h.mark p.h.typ p.h.seq p.h.tm p.h.ssrc p.h.csrc p.prof p.ex p.pl p.padn) false := Ev.step (fun k => by rw [packet_fits.j0]) (Ev.pos rfl (Ev.now _))
  have j1t : Ev (fun k => packet_fits.j1 k true p.h.pad p.h.ext p.h.mark p.h.typ p.h.seq p.h.tm p.h.ssrc p.h.csrc p.prof p.ex p.pl p.padn) false := Ev.step (fun k => by rw [packet_fits.j1]) (Ev.pos rfl (Ev.now _))
  have j1f : Ev (fun k => packet_fits.j1 k false p.h.pad p.h.ext p.h.mark p.h.typ p.h.seq p.h.tm p.h.ssrc p.h.csrc p.prof p.ex p.pl p.padn) (decide ((p.h.pad = true → 1 ≤ p.padn ∧ p.padn ≤ 255) ∧ (p.h.pad = false → p.padn = 0))) := by
    refine Ev.step (fun k => by rw [packet_fits.j1]) (Ev.neg (by decide) ?_)
    by_cases c : p.h.pad = true
    · refine Ev.pos c ?_
      by_cases c1 : p.padn ≥ 1
      · refine Ev.pos c1 (Ev.congr (f := fun _ => some (decide (p.padn ≤ 255))) (fun k => rfl) ?_)
        rw [show decide (p.padn ≤ 255) = decide ((p.h.pad = true → 1 ≤ p.padn ∧ p.padn ≤ 255) ∧ (p.h.pad = false → p.padn = 0)) by rw [decide_eq_decide]; simp [c]; omega]
        exact Ev.now _
      · rw [decide_eq_false (show ¬ ((p.h.pad = true → 1 ≤ p.padn ∧ p.padn ≤ 255) ∧ (p.h.pad = false → p.padn = 0)) from fun h => c1 (h.1 c).1)]
        exact Ev.neg c1 (Ev.now _)
    · have c' : p.h.pad = false := by simpa using c
      refine Ev.neg c (Ev.eq fun k => ?_)
      congr 1
      rw [Bool.eq_iff_iff]
      simp [c']
  have fin : ∀ {g : Nat → Option Bool} {b : Bool}, Ev g b → b = decide (FitsP p) → Ev g (decide (FitsP p)) := fun e h => h ▸ e
  have no : ∀ {g : Nat → Option Bool}, ¬ FitsP p → Ev g false → Ev g (decide (FitsP p)) := fun h e => fin e (decide_eq_false h).symm
  simp only [packet_fits.f]
  rw [hright_eq]
  simp only [ob]
  by_cases c1 : (0 ≤ p.h.typ ∧ p.h.typ ≤ 127) ∧ p.h.csrc.length ≤ 15
  · refine Ev.pos (decide_eq_true c1) ?_
    by_cases c2 : ((p.ex.length : Int) % 4) = 0
    · refine Ev.pos c2 ?_
      rw [w64 (by omega) (by omega)]
      by_cases c3 : (p.ex.length : Int) / 4 > 65535
      · rw [decide_eq_true c3]
        exact no (fun h => by have := h.2.1.2; omega) j0t
      · rw [decide_eq_false c3]
        refine Ev.step (fun k => by rw [packet_fits.j0]) (Ev.neg (by decide) ?_)
        by_cases c4 : p.h.ext = true
        · refine Ev.pos c4 (fin j1f ?_)
          rw [decide_eq_decide]
          exact ⟨fun h => ⟨c1, ⟨by omega, by omega⟩, fun h => absurd c4 (by rw [h]; decide), h.1, h.2⟩, fun h => ⟨h.2.2.2.1, h.2.2.2.2⟩⟩
        · refine Ev.neg c4 ?_
          have c4' : p.h.ext = false := by simpa using c4
          by_cases c5 : p.prof = 0
          · refine Ev.pos c5 ?_
            by_cases c6 : p.ex.length = 0
            · have e : ((p.ex.length : Int) != 0) = false := by simp [c6]
              rw [e]
              refine fin j1f ?_
              rw [decide_eq_decide]
              exact ⟨fun h => ⟨c1, ⟨by omega, by omega⟩, fun _ => ⟨c5, c6⟩, h.1, h.2⟩, fun h => ⟨h.2.2.2.1, h.2.2.2.2⟩⟩
            · have e : ((p.ex.length : Int) != 0) = true := by simp; intro h; exact c6 (by rw [h]; rfl)
              rw [e]
              exact no (fun h => c6 (h.2.2.1 c4').2) j1t
          · exact Ev.neg c5 (no (fun h => c5 (h.2.2.1 c4').1) j1t)
    · exact Ev.neg c2 (no (fun h => by have := h.2.1.1; omega) j0t)
  · exact Ev.neg (by rw [decide_eq_false c1]; decide) (no (fun h => c1 h.1) j0t)
theorem sum_eq {p : Pk} (f : FitsP p) (hx : p.ex.length ≤ 300000) (hl : p.pl.length ≤ 70000) : packet_sum.f p.h.pad p.h.ext p.h.mark p.h.typ p.h.seq p.h.tm p.h.ssrc p.h.csrc p.prof p.ex p.pl p.padn = some (sumM p) := by
  have hp : 0 ≤ p.padn ∧ p.padn ≤ 255 := by
    by_cases c : p.h.pad = true
    · have := f.2.2.2.1 c; omega
    · have := f.2.2.2.2 (by simpa using c); omega
  have hn := f.1.2
  unfold packet_sum.f head_Size.f
  rw [hright_eq]
  simp only [ob]
  rw [if_pos (decide_eq_true f.1), w64 (n := 4 * _) (by omega) (by omega), w64 (n := 12 + _) (by omega) (by omega)]
  simp only [ob]
  rw [w64 (n := 12 + 4 * (p.h.csrc.length : Int) + _) (by omega) (by omega), w64 (n := 12 + 4 * (p.h.csrc.length : Int) + _ + _) (by omega) (by omega), w64 (n := 4 + _) (by omega) (by omega)]
  unfold sumM
  by_cases c : p.h.ext = true
  · rw [if_pos c, if_pos c, w64 (by omega) (by omega)]
  · rw [if_neg c, if_neg c, Int.add_zero]
theorem right_ev (p : Pk) (hx : p.ex.length ≤ 300000) (hl : p.pl.length ≤ 70000) : Ev (fun k => packet_Right.f k p.h.pad p.h.ext p.h.mark p.h.typ p.h.seq p.h.tm p.h.ssrc p.h.csrc p.prof p.ex p.pl p.padn) (decide (RightP p)) := by
  simp only [packet_Right.f]
  refine Ev.bind (fits_ev p hx) ?_
  by_cases f : FitsP p
  · refine Ev.pos (decide_eq_true f) (Ev.eq fun k => ?_)
    rw [sum_eq f hx hl]
    simp only [ob]
    congr 1
    rw [decide_eq_decide]
    exact ⟨fun h => ⟨f, h⟩, fun h => h.2⟩
  · rw [decide_eq_false (fun h : RightP p => f h.1)]
    exact Ev.neg (by rw [decide_eq_false f]; decide) (Ev.now _)
theorem size_ev (p : Pk) (hx : p.ex.length ≤ 300000) (hl : p.pl.length ≤ 70000) : Ev (fun k => packet_Size.f k p.h.pad p.h.ext p.h.mark p.h.typ p.h.seq p.h.tm p.h.ssrc p.h.csrc p.prof p.ex p.pl p.padn) (if RightP p then sumM p else 0) := by
  simp only [packet_Size.f]
  refine Ev.bind (right_ev p hx hl) ?_
  by_cases r : RightP p
  · rw [if_pos r]
    refine Ev.pos (decide_eq_true r) (Ev.eq fun k => ?_)
    rw [sum_eq r.1 hx hl]
    simp only [ob]
  · rw [if_neg r]
    exact Ev.neg (by rw [decide_eq_false r]; decide) (Ev.now _)
theorem word_eq {l : List Int} (hl : l.length ≤ 1000000) (v : Int) : head_word.f l v = some (l ++ w4 v) := by
  unfold head_word.f
  simp only [ob]
  rw [if_pos (by simp only [List.length_cons, List.length_nil]; omega)]
  rfl
theorem hwrite_loop {cs : List Int} (hn : cs.length ≤ 15) (pre : List Int) (hp : pre.length ≤ 100) : ∀ (d i : Nat), i + d = cs.length → Ev (fun k => head_Write.l0 k (pre ++ (cs.take i).flatMap w4) cs (cs.length : Int) (i : Int)) (pre ++ cs.flatMap w4, 0) := by
  intro d
  induction d with
  | zero =>
    intro i hi
    rw [List.take_of_length_le (by omega)]
    exact Ev.step (fun k => by rw [head_Write.l0]) (Ev.neg (by omega) (Ev.now _))
  | succ d ih =>
    intro i hi
    have hl : ((cs.take i).flatMap w4).length = 4 * i := by rw [flatMap_w4_len, List.length_take]; omega
    refine Ev.step (fun k => by rw [head_Write.l0]) (Ev.pos (by omega) (Ev.pos (by omega) (Ev.pos (by omega) ?_)))
    rw [word_eq (by rw [List.length_append]; omega), w64 (by omega) (by omega)]
    simp only [ob]
    have := ih (i + 1) (by omega)
    have hr : rd cs (i : Int) = cs[i]'(by omega) := by rw [rd_eq (by omega) (by omega)]; rfl
    rw [List.take_succ_eq_append_getElem (show i < cs.length by omega), List.flatMap_append, List.flatMap_singleton, ← hr, ← List.append_assoc] at this
    exact this
theorem or_hdr : ∀ n : Nat, n < 16 → Go.bits .or .i64 128 (n : Int) % 256 = 128 + (n : Int) ∧ Go.bits .or .u8 (128 + (n : Int)) 32 = 128 + (n : Int) + 32 ∧ Go.bits .or .u8 (128 + (n : Int)) 16 = 128 + (n : Int) + 16 ∧ Go.bits .or .u8 (128 + (n : Int) + 32) 16 = 128 + (n : Int) + 32 + 16 := by decide +kernel
theorem or_typ : ∀ n : Nat, n < 128 → Go.bits .or .u8 ((n : Int) % 256) 128 = (n : Int) + 128 := by decide +kernel
theorem hwrite_ev {h : Hd} (ok : HOk h) : Ev (fun k => head_Write.f k h.pad h.ext h.mark h.typ h.seq h.tm h.ssrc h.csrc) (hdr h, 0) := by
  have n := ok.n
  have ty := ok.typ
  obtain ⟨o0, o1, o2, o3⟩ := or_hdr h.csrc.length (by omega)
  have ot := or_typ h.typ.toNat (by omega)
  rw [show ((h.typ.toNat : Nat) : Int) = h.typ by omega] at ot
  have j2 : Ev (fun k => head_Write.j2 k (hb0 h) (hb1 h) h.pad h.ext h.mark h.typ h.seq h.tm h.ssrc h.csrc) (hdr h, 0) := by
    refine Ev.step (fun k => by rw [head_Write.j2]) ?_
    rw [w64 (n := 4 * (h.csrc.length : Int)) (by omega) (by omega), w64 (by omega) (by omega)]
    refine Ev.pos (by omega) (Ev.pos (by omega) ?_)
    simp only [ob]
    refine Ev.pos (by simp only [List.length_cons, List.length_nil]; omega) ?_
    rw [List.nil_append, word_eq (by simp)]
    simp only [ob]
    rw [word_eq (by simp [w4_len])]
    simp only [ob]
    have := hwrite_loop n (([hb0 h, hb1 h, h.seq / 256 % 256, h.seq % 256] ++ w4 h.tm) ++ w4 h.ssrc) (by simp [w4_len]) h.csrc.length 0 (by omega)
    rw [List.take_zero, List.flatMap_nil, List.append_nil] at this
    have e : hdr h = (([hb0 h, hb1 h, h.seq / 256 % 256, h.seq % 256] ++ w4 h.tm) ++ w4 h.ssrc) ++ h.csrc.flatMap w4 := by simp [hdr]
    rw [e]
    exact this
  have j1 : Ev (fun k => head_Write.j1 k (hb0 h) h.pad h.ext h.mark h.typ h.seq h.tm h.ssrc h.csrc) (hdr h, 0) := by
    refine Ev.step (fun k => by rw [head_Write.j1]) ?_
    by_cases c : h.mark = true
    · refine Ev.pos c ?_
      rw [ot, show h.typ + 128 = hb1 h by simp [hb1, bi, c]]
      exact j2
    · refine Ev.neg c ?_
      rw [show h.typ % 256 = hb1 h by simp [hb1, bi, c]; omega]
      exact j2
  simp only [head_Write.f]
  rw [hright_eq]
  simp only [ob]
  refine Ev.pos (decide_eq_true ⟨ty, n⟩) ?_
  rw [o0]
  by_cases c : h.pad = true
  · refine Ev.pos c (Ev.step (fun k => by rw [head_Write.j0]) ?_)
    rw [o1]
    by_cases c2 : h.ext = true
    · refine Ev.pos c2 ?_
      rw [o3, show 128 + (h.csrc.length : Int) + 32 + 16 = hb0 h by simp [hb0, bi, c, c2]]
      exact j1
    · refine Ev.neg c2 ?_
      rw [show 128 + (h.csrc.length : Int) + 32 = hb0 h by simp [hb0, bi, c, c2]]
      exact j1
  · refine Ev.neg c (Ev.step (fun k => by rw [head_Write.j0]) ?_)
    by_cases c2 : h.ext = true
    · refine Ev.pos c2 ?_
      rw [o2, show 128 + (h.csrc.length : Int) + 16 = hb0 h by simp [hb0, bi, c, c2]]
      exact j1
    · refine Ev.neg c2 ?_
      rw [show 128 + (h.csrc.length : Int) = hb0 h by simp [hb0, bi, c, c2]]
      exact j1
theorem padd_eq {l : List Int} (hl : l.length ≤ 1000000) {n : Int} (h0 : 1 ≤ n) (h1 : n ≤ 255) : pad_Add.f l n = some (l ++ (List.replicate (n.toNat - 1) 0 ++ [n]), 0) := by
  obtain ⟨m, hm⟩ : ∃ m : Nat, n = (m : Int) + 1 := ⟨n.toNat - 1, by omega⟩
  subst hm
  unfold pad_Add.f
  rw [if_neg (by omega), if_neg (by omega), w64 (by omega) (by omega), if_pos (by omega), if_pos (by omega)]
  simp only [ob]
  rw [List.length_replicate, show (((l.length : Int) + ((m : Int) + 1)).toNat) = l.length + (m + 1) by omega, w64 (by omega) (by omega), if_pos (by omega), if_pos (by omega), show min l.length (l.length + (m + 1)) = l.length by omega, List.take_length, List.drop_replicate, show l.length + (m + 1) - l.length = m + 1 by omega, List.replicate_succ', show ((((l.length + (m + 1) : Nat) : Int) - 1).toNat) = l.length + m by omega, show ((m : Int) + 1) % 256 = (m : Int) + 1 by omega, show ((m : Int) + 1).toNat - 1 = m by omega]
  congr 2
  rw [List.set_append_right _ _ (by omega), List.set_append_right _ _ (by rw [List.length_replicate]; omega)]
  simp
theorem write_ev (p : Pk) (i : In p) (room : Int) : Ev (fun k => packet_Write.f k p.h.pad p.h.ext p.h.mark p.h.typ p.h.seq p.h.tm p.h.ssrc p.h.csrc p.prof p.ex p.pl p.padn room) (if RightP p then (if sumM p > room then ([], 7) else (writeM p, 0)) else ([], 1)) := by
  simp only [packet_Write.f]
  refine Ev.bind (right_ev p i.exl i.pll) ?_
  by_cases r : RightP p
  · rw [if_pos r]
    refine Ev.pos (decide_eq_true r) ?_
    rw [sum_eq r.1 i.exl i.pll]
    simp only [ob]
    by_cases c : sumM p > room
    · rw [if_pos c]
      exact Ev.pos c (Ev.now _)
    · rw [if_neg c]
      refine Ev.neg c ?_
      have ok := i.ok r.1
      have hex := i.exl
      have hpl := i.pll
      have hhl := hdr_len p.h
      have hn := ok.h.n
      refine Ev.bind (hwrite_ev ok.h) (Ev.pos rfl ?_)
      have j0 : ∀ x : List Int, x.length ≤ 400000 → Ev (fun k => packet_Write.j0 k x p.h.pad p.h.ext p.h.mark p.h.typ p.h.seq p.h.tm p.h.ssrc p.h.csrc p.prof p.ex p.pl p.padn) ((x ++ p.pl) ++ fill p, 0) := by
        intro x hx
        refine Ev.step (fun k => by rw [packet_Write.j0]) ?_
        have e := join_ev (ls := [x, p.pl]) (by simp) (by simp; omega)
        rw [show [x, p.pl].flatten = x ++ p.pl by simp] at e
        refine Ev.bind e ?_
        unfold fill
        by_cases c : p.h.pad = true
        · have hp := ok.padt c
          refine Ev.pos c (Ev.eq fun k => ?_)
          rw [padd_eq (by rw [List.length_append]; omega) hp.1 hp.2, if_pos c]
          simp only [ob]
        · refine Ev.neg c ?_
          rw [if_neg c, List.append_nil]
          exact Ev.now _
      have e2 : writeM p = ((hdr p.h ++ extB p) ++ p.pl) ++ fill p := by simp only [writeM, fore, List.append_assoc]
      rw [e2]
      unfold extB
      by_cases c2 : p.h.ext = true
      · refine Ev.pos c2 ?_
        rw [w64 (by omega) (by omega), if_pos c2]
        have e := join_ev (ls := [hdr p.h, [p.prof / 256 % 256, p.prof % 256, (p.ex.length : Int) / 4 / 256 % 256, (p.ex.length : Int) / 4 % 256], p.ex]) (by simp) (by simp; omega)
        rw [show [hdr p.h, [p.prof / 256 % 256, p.prof % 256, (p.ex.length : Int) / 4 / 256 % 256, (p.ex.length : Int) / 4 % 256], p.ex].flatten = hdr p.h ++ (p.prof / 256 % 256) :: (p.prof % 256) :: ((p.ex.length : Int) / 4 / 256 % 256) :: ((p.ex.length : Int) / 4 % 256) :: p.ex by simp] at e
        generalize hX : hdr p.h ++ (p.prof / 256 % 256) :: (p.prof % 256) :: ((p.ex.length : Int) / 4 / 256 % 256) :: ((p.ex.length : Int) / 4 % 256) :: p.ex = X at e ⊢
        exact Ev.bind e (j0 X (by rw [← hX]; simp only [List.length_append, List.length_cons]; omega))
      · refine Ev.neg c2 ?_
        rw [if_neg c2, List.append_nil]
        exact j0 (hdr p.h) (by omega)
  · rw [if_neg r]
    exact Ev.neg (by rw [decide_eq_false r]; decide) (Ev.now _)
def AllZ (l : List Int) : Prop := ∀ x ∈ l, x = 0
instance (l : List Int) : Decidable (AllZ l) := by unfold AllZ; infer_instance
theorem numbers_refl (l : List Int) (hl : l.length ≤ 140737488351232) : Ev (fun k => crossbarref05_Numbers.f k l l) true := by
  have lp : ∀ (d i : Nat), i + d = l.length → Ev (fun k => crossbarref05_Numbers.l0 k l l (i : Int)) true := by
    intro d
    induction d with
    | zero => intro i hi; exact Ev.step (fun k => by rw [crossbarref05_Numbers.l0]) (Ev.neg (by omega) (Ev.now _))
    | succ d ih =>
      intro i hi
      refine Ev.step (fun k => by rw [crossbarref05_Numbers.l0]) (Ev.pos (by omega) (Ev.pos (by omega) (Ev.pos (by omega) (Ev.pos rfl ?_))))
      rw [w64 (by omega) (by omega)]
      exact ih (i + 1) (by omega)
  exact Ev.congr (fun k => by rw [crossbarref05_Numbers.f, if_pos rfl]; rfl) (lp l.length 0 (by omega))
theorem same_refl (p : Pk) (hl : p.h.csrc.length ≤ 140737488351232) : Ev (fun k => crossbarref06_Same.f k p.h.pad p.h.ext p.h.mark p.h.typ p.h.seq p.h.tm p.h.ssrc p.h.csrc p.prof p.ex p.pl p.padn p.h.pad p.h.ext p.h.mark p.h.typ p.h.seq p.h.tm p.h.ssrc p.h.csrc p.prof p.ex p.pl p.padn) true := by
  refine Ev.congr (fun k => by rw [crossbarref06_Same.f]) ?_
  have e : Ev (fun k => crossbarref05_Same.f k p.h.pad p.h.ext p.h.mark p.h.typ p.h.seq p.h.tm p.h.ssrc p.h.csrc p.h.pad p.h.ext p.h.mark p.h.typ p.h.seq p.h.tm p.h.ssrc p.h.csrc) true := by
    refine Ev.congr (fun k => by rw [crossbarref05_Same.f]) ?_
    refine Ev.pos (by simp) (Ev.pos (by simp) (Ev.pos (by simp) (Ev.pos rfl (Ev.pos rfl (Ev.pos rfl (Ev.pos rfl ?_))))))
    exact Ev.bind (numbers_refl _ hl) (Ev.now _)
  refine Ev.bind e (Ev.pos rfl (Ev.pos rfl (Ev.pos rfl (Ev.pos rfl (Ev.eq fun k => ?_)))))
  simp
theorem byte_inj {x y : Int} (hx : 0 ≤ x ∧ x ≤ 255) (hy : 0 ≤ y ∧ y ≤ 255) (h : UInt8.ofNat x.toNat = UInt8.ofNat y.toNat) : x = y := by
  have := congrArg UInt8.toNat h
  simp only [UInt8.toNat_ofNat'] at this
  omega
theorem map_inj {g : Int → UInt8} : ∀ {a b : List Int}, (∀ x ∈ a, ∀ y ∈ b, g x = g y → x = y) → a.map g = b.map g → a = b
  | [], [], _, _ => rfl
  | [], y :: b, _, h => by simp at h
  | x :: a, [], _, h => by simp at h
  | x :: a, y :: b, hi, h => by
    simp only [List.map_cons, List.cons.injEq] at h
    rw [hi x (by simp) y (by simp) h.1, map_inj (fun u hu v hv => hi u (by simp [hu]) v (by simp [hv])) h.2]
theorem str_inj {a b : List Int} (ha : Byt a) (hb : Byt b) (h : (strOfNums a).toList = (strOfNums b).toList) : a = b := by
  rw [Go.Lib.strOfNums_toList, Go.Lib.strOfNums_toList] at h
  exact map_inj (fun x hx y hy he => byte_inj (ha x hx) (hb y hy) he) h
theorem hdr_byt {h : Hd} (ok : HOk h) : Byt (hdr h) := by
  have n := ok.n
  have ty := ok.typ
  have p := bi_or h.pad 32
  have x := bi_or h.ext 16
  have m := bi_or h.mark 128
  have c : Byt (h.csrc.flatMap w4) := fun v hv => by
    obtain ⟨u, _, hu⟩ := List.mem_flatMap.1 hv
    exact w4_byt u v hu
  have r := (w4_byt h.tm).append ((w4_byt h.ssrc).append c)
  intro v hv
  unfold hdr hb0 hb1 at hv
  simp only [List.mem_cons] at hv
  rcases hv with rfl | rfl | rfl | rfl | hv
  · omega
  · omega
  · omega
  · omega
  · exact r v hv
theorem fore_byt {p : Pk} (ok : POk p) : Byt (fore p) := by
  refine (hdr_byt ok.h).append (Byt.append ?_ ok.pl)
  unfold extB
  split
  · intro v hv
    simp only [List.mem_cons] at hv
    rcases hv with rfl | rfl | rfl | rfl | hv
    · omega
    · omega
    · omega
    · omega
    · exact ok.ex v hv
  · intro v hv; simp at hv
theorem write_byt {p : Pk} (ok : POk p) : Byt (writeM p) := (fore_byt ok).append (fill_tr ok).byt
theorem write_len {p : Pk} (ok : POk p) : ((writeM p).length : Int) = sumM p := by
  have := fore_len p
  have := (fill_tr ok).len
  unfold writeM
  rw [List.length_append]
  omega
theorem open_write {p : Pk} (ok : POk p) (hs : sumM p ≤ 65535) : openM (writeM p) = (p, fill p, 0) := open_at ok (fill_tr ok) hs
end Go.Proofs.Ytcbdgknfkoodoaa.S
namespace Go.Proofs.Ytcbdgknfkoodoaa.Pure
open Go.RowKit Go.Proofs.Ytcbdgknfkoodoaa.F Go.Proofs.YtcbdgknfkoodoaaW.PrintWords Go.Proofs.Ytcbdgknfkoodoaa.S Go.Proofs.YtcbdgknfkoodoaaW.RowKd
set_option linter.unusedVariables false
set_option linter.unusedSimpArgs false
theorem awake06 : Ev (fun k => crossbarlaw06_awake.f k) true := Ev.of crossbarlaw06_awake.mono (k := 60) (by decide +kernel)
theorem u16_of_wf {n : Int} (h : IQ .u16 n) : 0 ≤ n ∧ n ≤ 65535 := by
  have h : (Lit.int .u16 n).wf = true := h
  simp [Lit.wf, IntKind.min, IntKind.max, IntKind.signed, IntKind.bits] at h
  omega
theorem u32_of_wf {n : Int} (h : IQ .u32 n) : 0 ≤ n ∧ n < 4294967296 := by
  have h : (Lit.int .u32 n).wf = true := h
  simp [Lit.wf, IntKind.min, IntKind.max, IntKind.signed, IntKind.bits] at h
  omega
theorem numbers_ne {a b : List Int} (hl : a.length ≤ 140737488351232) (h : a ≠ b) : Ev (fun k => crossbarref05_Numbers.f k a b) false := by
  by_cases c : a.length = b.length
  · have lp : ∀ (d i : Nat), i + d = a.length → a.drop i ≠ b.drop i → Ev (fun k => crossbarref05_Numbers.l0 k a b (i : Int)) false := by
      intro d
      induction d with
      | zero =>
        intro i hi hn
        exact absurd (by rw [List.drop_of_length_le (by omega), List.drop_of_length_le (by omega)]) hn
      | succ d ih =>
        intro i hi hn
        have da : a.drop i = rd a (i : Int) :: a.drop (i + 1) := by rw [List.drop_eq_getElem_cons (show i < a.length by omega), rd_eq (by omega) (by omega)]; rfl
        have db : b.drop i = rd b (i : Int) :: b.drop (i + 1) := by rw [List.drop_eq_getElem_cons (show i < b.length by omega), rd_eq (by omega) (by omega)]; rfl
        refine Ev.step (fun k => by rw [crossbarref05_Numbers.l0]) (Ev.pos (by omega) (Ev.pos (by omega) (Ev.pos (by omega) ?_)))
        by_cases e : rd a (i : Int) = rd b (i : Int)
        · refine Ev.pos e ?_
          rw [w64 (by omega) (by omega)]
          exact ih (i + 1) (by omega) (fun h2 => hn (by rw [da, db, e, h2]))
        · exact Ev.neg e (Ev.now _)
    exact Ev.congr (fun k => by rw [crossbarref05_Numbers.f, if_pos (by omega)]; rfl) (lp a.length 0 (by omega) (by rw [List.drop_zero, List.drop_zero]; exact h))
  · exact Ev.congr (fun k => by rw [crossbarref05_Numbers.f, if_neg (by omega)]) (Ev.now _)
theorem same_ne {p q : Pk} (hl : p.h.csrc.length ≤ 140737488351232) (b1 : Byt p.ex) (b2 : Byt q.ex) (b3 : Byt p.pl) (b4 : Byt q.pl) (h : p ≠ q) : Ev (fun k => crossbarref06_Same.f k p.h.pad p.h.ext p.h.mark p.h.typ p.h.seq p.h.tm p.h.ssrc p.h.csrc p.prof p.ex p.pl p.padn q.h.pad q.h.ext q.h.mark q.h.typ q.h.seq q.h.tm q.h.ssrc q.h.csrc q.prof q.ex q.pl q.padn) false := by
  have hs : ∀ b : Bool, (b = true → p.h = q.h) → Ev (fun k => if b = true then (if p.prof = q.prof then (if (strOfNums p.ex).toList = (strOfNums q.ex).toList then (if (strOfNums p.pl).toList = (strOfNums q.pl).toList then some (p.padn == q.padn) else some false) else some false) else some false) else some false) false := by
    intro b hb
    by_cases c0 : b = true
    · refine Ev.pos c0 ?_
      by_cases c1 : p.prof = q.prof
      · refine Ev.pos c1 ?_
        by_cases c2 : (strOfNums p.ex).toList = (strOfNums q.ex).toList
        · refine Ev.pos c2 ?_
          by_cases c3 : (strOfNums p.pl).toList = (strOfNums q.pl).toList
          · refine Ev.pos c3 (Ev.eq fun k => ?_)
            have : ¬ p.padn = q.padn := by
              intro c4
              apply h
              have e0 := hb c0
              have e2 := str_inj b1 b2 c2
              have e3 := str_inj b3 b4 c3
              cases p
              cases q
              simp_all
            simp [this]
          · exact Ev.neg c3 (Ev.now _)
        · exact Ev.neg c2 (Ev.now _)
      · exact Ev.neg c1 (Ev.now _)
    · exact Ev.neg c0 (Ev.now _)
  refine Ev.congr (fun k => by rw [crossbarref06_Same.f]) ?_
  have h5 : ∃ b : Bool, (b = true → p.h = q.h) ∧ Ev (fun k => crossbarref05_Same.f k p.h.pad p.h.ext p.h.mark p.h.typ p.h.seq p.h.tm p.h.ssrc p.h.csrc q.h.pad q.h.ext q.h.mark q.h.typ q.h.seq q.h.tm q.h.ssrc q.h.csrc) b := by
    by_cases e : p.h = q.h
    · refine ⟨true, fun _ => e, ?_⟩
      rw [← e]
      refine Ev.congr (fun k => by rw [crossbarref05_Same.f]) ?_
      refine Ev.pos (by simp) (Ev.pos (by simp) (Ev.pos (by simp) (Ev.pos rfl (Ev.pos rfl (Ev.pos rfl (Ev.pos rfl ?_))))))
      exact Ev.bind (numbers_refl _ hl) (Ev.now _)
    · refine ⟨false, fun h => by simp at h, ?_⟩
      refine Ev.congr (fun k => by rw [crossbarref05_Same.f]) ?_
      by_cases c1 : (p.h.pad == q.h.pad) = true
      · refine Ev.pos c1 ?_
        by_cases c2 : (p.h.ext == q.h.ext) = true
        · refine Ev.pos c2 ?_
          by_cases c3 : (p.h.mark == q.h.mark) = true
          · refine Ev.pos c3 ?_
            by_cases c4 : p.h.typ = q.h.typ
            · refine Ev.pos c4 ?_
              by_cases c5 : p.h.seq = q.h.seq
              · refine Ev.pos c5 ?_
                by_cases c6 : p.h.tm = q.h.tm
                · refine Ev.pos c6 ?_
                  by_cases c7 : p.h.ssrc = q.h.ssrc
                  · refine Ev.pos c7 (Ev.bind (numbers_ne hl ?_) (Ev.now _))
                    intro c8
                    apply e
                    have d1 := eq_of_beq c1
                    have d2 := eq_of_beq c2
                    have d3 := eq_of_beq c3
                    revert d1 d2 d3 c4 c5 c6 c7 c8
                    generalize p.h = a
                    generalize q.h = b
                    intros
                    cases a
                    cases b
                    simp_all
                  · exact Ev.neg c7 (Ev.now _)
                · exact Ev.neg c6 (Ev.now _)
              · exact Ev.neg c5 (Ev.now _)
            · exact Ev.neg c4 (Ev.now _)
          · exact Ev.neg c3 (Ev.now _)
        · exact Ev.neg c2 (Ev.now _)
      · exact Ev.neg c1 (Ev.now _)
  obtain ⟨b, hb, e⟩ := h5
  exact Ev.bind e (hs b hb)
theorem code_T (left : List Int) (h : Hd) (prof : Int) (ex : List Int) : (openT left h prof ex).2.2 = 0 ∨ ((openT left h prof ex).2.2 = 5 ∧ h.pad = true) := by
  unfold openT
  by_cases c : h.pad = true
  · rw [if_pos c]
    by_cases c2 : trailM left = 0
    · rw [if_pos c2]; exact .inr ⟨rfl, c⟩
    · rw [if_neg c2]; exact .inl rfl
  · rw [if_neg c]; exact .inl rfl
theorem code_of {l : List Int} (hl : l.length ≤ 65535) (hv : 12 ≤ l.length → rd l 0 / 64 = 2) : ((openM l).2.2 = 0 ∨ (openM l).2.2 = 2 ∨ (openM l).2.2 = 5) ∧ (l.length < 12 → (openM l).2.2 = 2) := by
  have hh : (headM l).2.2 = 2 ∨ ((headM l).2.2 = 0 ∧ 12 ≤ l.length) := by
    unfold headM
    by_cases c1 : l.length < 12
    · rw [if_pos c1]; exact .inl rfl
    · rw [if_neg c1, if_neg (by have := hv (by omega); omega)]
      split
      · exact .inl rfl
      · exact .inr ⟨rfl, by omega⟩
  unfold openM
  rw [if_neg (by omega)]
  rcases hh with h | ⟨h, h12⟩
  · rw [if_pos (by omega), h]
    exact ⟨.inr (.inl rfl), fun _ => rfl⟩
  · rw [if_neg (by omega)]
    refine ⟨?_, fun h => by omega⟩
    split
    · unfold openE
      split
      · exact .inr (.inl rfl)
      · split
        · exact .inr (.inl rfl)
        · rcases code_T ((List.drop 4 (l.drop (headM l).2.1.toNat)).drop (4 * (rd (l.drop (headM l).2.1.toNat) 2 * 256 + rd (l.drop (headM l).2.1.toNat) 3)).toNat) (headM l).1 (rd (l.drop (headM l).2.1.toNat) 0 * 256 + rd (l.drop (headM l).2.1.toNat) 1) ((List.drop 4 (l.drop (headM l).2.1.toNat)).take (4 * (rd (l.drop (headM l).2.1.toNat) 2 * 256 + rd (l.drop (headM l).2.1.toNat) 3)).toNat) with h | h
          · exact .inl h
          · exact .inr (.inr h.1)
    · rcases code_T (l.drop (headM l).2.1.toNat) (headM l).1 0 [] with h | h
      · exact .inl h
      · exact .inr (.inr h.1)
theorem open_fore {p : Pk} (ok : POk p) (z : List Int) (hs : (hdr p.h ++ (extB p ++ z)).length ≤ 65535) : openM (hdr p.h ++ (extB p ++ z)) = openT z p.h p.prof p.ex := by
  unfold openM
  rw [if_neg (by omega)]
  have hd := head_hdr ok.h (extB p ++ z)
  rw [hd]
  dsimp only
  rw [if_neg (by simp), show (12 + 4 * (p.h.csrc.length : Int)).toNat = (hdr p.h).length by rw [hdr_len]; omega, List.drop_left]
  unfold extB
  by_cases c : p.h.ext = true
  · rw [if_pos c, if_pos c]
    unfold openE
    have hp := ok.prof
    have h4 := ok.ex4
    have hn := ok.exn
    simp only [List.cons_append, List.length_cons, List.length_append]
    rw [if_neg (by omega)]
    have g0 : ∀ (a b c d : Int) (r : List Int), rd (a :: b :: c :: d :: r) 0 = a ∧ rd (a :: b :: c :: d :: r) 1 = b ∧ rd (a :: b :: c :: d :: r) 2 = c ∧ rd (a :: b :: c :: d :: r) 3 = d := fun a b c d r => ⟨rfl, rfl, rfl, rfl⟩
    have g := g0 (p.prof / 256 % 256) (p.prof % 256) ((p.ex.length : Int) / 4 / 256 % 256) ((p.ex.length : Int) / 4 % 256) (p.ex ++ z)
    rw [g.1, g.2.1, g.2.2.1, g.2.2.2, show p.prof / 256 % 256 * 256 + p.prof % 256 = p.prof by omega, show 4 * ((p.ex.length : Int) / 4 / 256 % 256 * 256 + (p.ex.length : Int) / 4 % 256) = p.ex.length by omega, if_neg (by omega), Int.toNat_natCast]
    show openT ((p.ex ++ z).drop p.ex.length) p.h p.prof ((p.ex ++ z).take p.ex.length) = _
    rw [List.drop_left, List.take_left]
  · have hz := ok.none (by simpa using c)
    rw [if_neg c, if_neg c, List.nil_append, hz.1, hz.2]
theorem cut3 {p : Pk} (ok : POk p) (hs : sumM p ≤ 20000) {more : List Int} (hb : Byt more) (hm : more.length ≤ 3000) : Ev (fun k => crossbarlaw06_PacketCut.j3 k more (writeM p) false p.h.pad p.h.ext p.h.mark p.h.typ p.h.seq p.h.tm p.h.ssrc p.h.csrc p.prof p.ex p.pl p.padn) true := by
  have wl := write_len ok
  have n := ok.h.n
  refine Ev.step (fun k => by rw [crossbarlaw06_PacketCut.j3]) (Ev.neg (by decide) ?_)
  simp only [ob]
  rw [List.nil_append]
  refine Ev.pos (by simp only [List.length_nil]; omega) (Ev.pos (by omega) ?_)
  have hbx := (write_byt ok).append hb
  refine Ev.bind (read_ev hbx) ?_
  by_cases c : (more.length : Int) = 0
  · have : more = [] := List.eq_nil_of_length_eq_zero (by omega)
    subst this
    rw [List.append_nil, open_write ok (by omega)]
    exact Ev.pos rfl (Ev.pos rfl (Ev.bind (same_refl p (by omega)) (Ev.now _)))
  · refine Ev.neg c ?_
    have e : writeM p ++ more = hdr p.h ++ (extB p ++ (p.pl ++ (fill p ++ more))) := by simp only [writeM, fore, List.append_assoc]
    have ho : openM (writeM p ++ more) = openT (p.pl ++ (fill p ++ more)) p.h p.prof p.ex := by
      rw [e]
      exact open_fore ok _ (by rw [← e, List.length_append]; omega)
    rcases code_T (p.pl ++ (fill p ++ more)) p.h p.prof p.ex with h0 | ⟨h5, hp⟩
    · rw [← ho] at h0
      obtain ⟨ok2, tr, e2, hl2⟩ := open_of hbx h0
      have hne : p ≠ (openM (writeM p ++ more)).1 := by
        intro h
        have hf := fore_len (openM (writeM p ++ more)).1
        have htr := tr.len
        have h1 := congrArg List.length e2
        rw [List.length_append, List.length_append] at h1
        rw [← h] at hf htr h1
        omega
      refine Ev.pos h0 (Ev.bind (same_ne (by omega) ok.ex ok2.ex ok.pl ok2.pl hne) (Ev.neg (by decide) (Ev.now _)))
    · rw [← ho] at h5
      refine Ev.neg (by dsimp only; omega) (Ev.pos h5 ?_)
      rw [hp]
      exact Ev.now _
theorem cut1 {p : Pk} (ok : POk p) (hs : sumM p ≤ 20000) {cut : Int} (h0 : 0 ≤ cut) (h1 : cut ≤ 65535) {more : List Int} (hb : Byt more) (hm : more.length ≤ 3000) : Ev (fun k => crossbarlaw06_PacketCut.j1 k cut more (writeM p) 0 false p.h.pad p.h.ext p.h.mark p.h.typ p.h.seq p.h.tm p.h.ssrc p.h.csrc p.prof p.ex p.pl p.padn) true := by
  have wl := write_len ok
  have n := ok.h.n
  have hw := write_byt ok
  have l12 : 12 ≤ (writeM p).length := by
    have : (hdr p.h).length ≤ (writeM p).length := by unfold writeM fore; simp only [List.length_append]; omega
    rw [hdr_len] at this; omega
  refine Ev.step (fun k => by rw [crossbarlaw06_PacketCut.j1]) (Ev.neg (by decide) (Ev.neg (by omega) ?_))
  rw [w64 (by omega) (by omega)]
  obtain ⟨c, hc⟩ : ∃ c : Nat, Int.tmod cut ((writeM p).length : Int) = c := by
    rw [Int.tmod_eq_emod_of_nonneg h0]
    exact ⟨(cut % ((writeM p).length : Int)).toNat, by have := Int.emod_nonneg cut (show ((writeM p).length : Int) ≠ 0 by omega); omega⟩
  have hcl : c < (writeM p).length := by
    have := Int.emod_lt_of_pos cut (show (0 : Int) < ((writeM p).length : Int) by omega)
    rw [← Int.tmod_eq_emod_of_nonneg h0, hc] at this
    omega
  rw [hc]
  refine Ev.pos (by omega) (Ev.pos (by omega) ?_)
  rw [Int.toNat_natCast]
  have hbt := hw.take c
  have htl : ((writeM p).take c).length = c := by rw [List.length_take]; omega
  have hv : 12 ≤ ((writeM p).take c).length → rd ((writeM p).take c) 0 / 64 = 2 := by
    intro h
    have e : rd ((writeM p).take c) 0 = hb0 p.h := by
      have e1 : rd ((writeM p).take c) 0 = rd (writeM p) 0 := by
        show ((writeM p).take c).getD 0 0 = (writeM p).getD 0 0
        rw [List.getD_eq_getElem?_getD, List.getD_eq_getElem?_getD, List.getElem?_take, if_pos (by omega)]
      rw [e1]
      rfl
    rw [e]
    have pb := bi_or p.h.pad 32
    have xb := bi_or p.h.ext 16
    unfold hb0
    omega
  obtain ⟨cd, cs⟩ := code_of (by rw [htl]; omega) hv
  have j3 := cut3 ok hs hb hm
  have j2 : ∀ code : Int, (c < 12 → code = 2) → Ev (fun k => crossbarlaw06_PacketCut.j2 k more (writeM p) (c : Int) code false p.h.pad p.h.ext p.h.mark p.h.typ p.h.seq p.h.tm p.h.ssrc p.h.csrc p.prof p.ex p.pl p.padn) true := by
    intro code h
    refine Ev.step (fun k => by rw [crossbarlaw06_PacketCut.j2]) (Ev.neg (by decide) ?_)
    by_cases c12 : (c : Int) < 12
    · refine Ev.pos c12 ?_
      rw [h (by omega)]
      exact j3
    · exact Ev.neg c12 j3
  refine Ev.bind (read_ev hbt) ?_
  rw [htl] at cs
  by_cases z : (openM ((writeM p).take c)).2.2 = 0
  · obtain ⟨ok2, tr, e2, hl2⟩ := open_of hbt z
    have fit2 := (open_fit hbt z).1
    generalize openM ((writeM p).take c) = o at z cs cd ok2 tr e2 fit2
    have hf := fore_len o.1
    have htr := tr.len
    have h1' := congrArg List.length e2
    rw [htl, List.length_append] at h1'
    have hne : p ≠ o.1 := by
      intro h
      rw [← h] at hf htr h1'
      omega
    have ex2 : o.1.ex.length ≤ 300000 := fit2.2.1
    have pl2 : o.1.pl.length ≤ 70000 := by
      have : o.1.pl.length ≤ (fore o.1).length := by unfold fore; simp only [List.length_append]; omega
      omega
    have r : RightP o.1 := ⟨ok2.fits, by omega⟩
    have sz := size_ev o.1 ex2 pl2
    rw [if_pos r] at sz
    dsimp only [pflat]
    refine Ev.pos z (Ev.bind (same_ne (by omega) ok.ex ok2.ex ok.pl ok2.pl hne) (Ev.neg (by decide) (Ev.bind sz (Ev.pos (by omega) ?_))))
    exact j2 o.2.2 (fun h => cs h)
  · generalize openM ((writeM p).take c) = o at z cs cd
    dsimp only [pflat]
    refine Ev.neg z ?_
    by_cases z2 : o.2.2 = 2
    · exact Ev.pos z2 (j2 o.2.2 (fun h => cs h))
    · refine Ev.neg z2 ?_
      have z5 : o.2.2 = 5 := by omega
      have : (o.2.2 != 5) = false := by rw [z5]; rfl
      rw [this]
      exact j2 o.2.2 (fun h => cs h)
theorem PacketCut : crossbarlaw06_PacketCut.PureS := by
  intro a0 a1 a2 a3 a4 a5 a6 l7 a8 l9 l10 a11 cut l1 w3 w4 w5 w6 _ w7 w8 _ w9 _ w10 w11 wc _ w1
  have hb : Byt l1 := byt_of_wf w1
  have hc := u16_of_wf wc
  refine Ev.rounds ?_
  simp only [crossbarlaw06_PacketCut.f, crossbarref06_Short.f]
  refine Ev.bind awake06 (Ev.pos rfl ?_)
  have jt : Ev (fun k => crossbarlaw06_PacketCut.j0 k cut l1 true a0 a1 a2 a3 a4 a5 a6 l7 a8 l9 l10 a11) true := Ev.step (fun k => by rw [crossbarlaw06_PacketCut.j0]) (Ev.pos rfl (Ev.now _))
  by_cases c1 : (l7.length : Int) ≤ 99
  · by_cases c2 : (l9.length : Int) ≤ 300000
    · simp only [if_pos c1, if_pos c2, ob]
      by_cases c3 : (l10.length : Int) ≤ 70000
      · refine Ev.pos (decide_eq_true c3) ?_
        by_cases c4 : (l1.length : Int) > 3000
        · exact Ev.pos c4 jt
        · refine Ev.neg c4 ?_
          by_cases c5 : (l10.length : Int) > 3000
          · exact Ev.pos c5 jt
          · refine Ev.neg c5 ?_
            by_cases c6 : (l9.length : Int) > 3000
            · rw [decide_eq_true c6]; exact jt
            · rw [decide_eq_false c6]
              refine Ev.step (fun k => by rw [crossbarlaw06_PacketCut.j0]) (Ev.neg (by decide) ?_)
              let p : Pk := ⟨⟨a0, a1, a2, a3, a4, a5, a6, l7⟩, a8, l9, l10, a11⟩
              have i : In p := ⟨u16_of_wf w4, u32_of_wf w5, u32_of_wf w6, fun v hv => u32_of_wf (w7 v hv), u16_of_wf w8, byt_of_wf w9, byt_of_wf w10, by show l9.length ≤ 300000; omega, by show l10.length ≤ 70000; omega⟩
              have w := write_ev p i 65535
              by_cases r : RightP p
              · have ok := i.ok r.1
                rw [if_pos r, if_neg (by have := r.2; omega)] at w
                have hs : sumM p ≤ 20000 := by
                  have n := ok.h.n
                  have hp : p.padn ≤ 255 := by
                    by_cases c : p.h.pad = true
                    · exact (ok.padt c).2
                    · have := ok.padf (by simpa using c); omega
                  have h9 : p.ex.length ≤ 3000 := by show l9.length ≤ 3000; omega
                  have h10 : p.pl.length ≤ 3000 := by show l10.length ≤ 3000; omega
                  unfold sumM
                  split <;> omega
                have wl := write_len ok
                have l12 : 12 ≤ (writeM p).length := by
                  have : (hdr p.h).length ≤ (writeM p).length := by unfold writeM fore; simp only [List.length_append]; omega
                  rw [hdr_len] at this; omega
                refine Ev.bind w (Ev.pos rfl ?_)
                have e : (((writeM p).length : Int) == 0) = false := by simp; intro h; rw [h] at l12; simp at l12
                show Ev (fun k => crossbarlaw06_PacketCut.j1 k cut l1 (writeM p) 0 (((writeM p).length : Int) == 0) a0 a1 a2 a3 a4 a5 a6 l7 a8 l9 l10 a11) true
                rw [e]
                exact cut1 ok hs hc.1 hc.2 hb (by omega)
              · rw [if_neg r] at w
                refine Ev.bind w (Ev.neg (by decide) ?_)
                show Ev (fun k => crossbarlaw06_PacketCut.j1 k cut l1 [] 1 true a0 a1 a2 a3 a4 a5 a6 l7 a8 l9 l10 a11) true
                refine Ev.step (f := fun _ => some true) (fun k => ?_) (Ev.now _)
                rw [crossbarlaw06_PacketCut.j1, if_pos rfl]
                rfl
      · exact Ev.neg (by rw [decide_eq_false c3]; decide) jt
    · simp only [if_pos c1, if_neg c2, ob]
      exact Ev.neg (by decide) jt
  · simp only [if_neg c1, ob]
    exact Ev.neg (by decide) jt
end Go.Proofs.Ytcbdgknfkoodoaa.Pure
