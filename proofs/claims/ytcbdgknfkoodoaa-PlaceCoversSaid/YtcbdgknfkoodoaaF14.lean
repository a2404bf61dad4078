/- The walks of the program's functions, written by a program for this claim: each function's call does what its plain Lean function says. No conditions beyond those stated. -/
import Derived.Test.YtcbdgknfkoodoaaF0
namespace Go.Proofs.Ytcbdgknfkoodoaa.F
open Go.RowKit Go.Proofs.YtcbdgknfkoodoaaW.PrintWords Go.Proofs.YtcbdgknfkoodoaaW.PrintLast Go.Proofs.YtcbdgknfkoodoaaW.PrintMore
attribute [local go_sem] max2_int min2_int max_two min_two max_three min_three max_four min_four   -- for this text's walks alone
set_option linter.unusedVariables false
set_option linter.unusedSimpArgs false

/-! ### place_Owner: function 15 -/
def ownB (a1 : Int) (p : S32) : Bool := decide (p.f1 ≤ a1) && (decide (0 < p.f2) && decide (IntKind.u64.wrap (IntKind.u64.wrap a1 - IntKind.u64.wrap p.f1) < IntKind.u64.wrap p.f2))
set_option maxHeartbeats 1000000 in
theorem owner_has (p : S32) (a1 : Int) (ga : Nat) (w : World) (hc : w.cell? ⟨ga, 0, none⟩ = some (.int .i64 a1)) :
    Calls Try.prog 31 #[.agg #[.int .i64 p.f0, .int .i64 p.f1, .int .i64 p.f2], .pointer (some ⟨ga, 0, none⟩)] w fun e w' => e = .returned (.bool (ownB a1 p)) ∧ Below w.heap.size w w' := by
  have hB : Hid (ownB a1 p = (decide (p.f1 ≤ a1) && (decide (0 < p.f2) && decide (IntKind.u64.wrap (IntKind.u64.wrap a1 - IntKind.u64.wrap p.f1) < IntKind.u64.wrap p.f2)))) := rfl
  have hlt : ga < w.heap.size := World.block_lt_of_cell? w _ hc
  have hne : (ga = w.heap.size) = False := eq_false (Nat.ne_of_lt hlt)
  have hne2 : (w.heap.size = ga) = False := eq_false (Nat.ne_of_gt hlt)
  go_enter Try.func31, Try.ntmps31
  go_wp2
  all_goals
    go_ret
    refine ⟨?_, below_alloc (Below.refl _ _) _⟩
    rw [hB.out]
    simp [*, Int.not_le.2, Int.not_lt.2]
def place_Owner.f (l0 : List S32) (a1 : Int) : Option Int := some (((l0.find? (ownB a1)).map S32.f0).getD (-1))
theorem find_snoc {α : Type} (q : α → Bool) (l : List α) (k : Nat) (h : k < l.length) (hn : (l.take k).find? q = none) : (q l[k] = true → l.find? q = some l[k]) ∧ (q l[k] = false → (l.take (k + 1)).find? q = none) := by
  refine ⟨fun hq => ?_, fun hq => ?_⟩
  · have e : l.find? q = (l.take k ++ (l[k] :: l.drop (k + 1))).find? q := congrArg _ (by simp)
    rw [e, List.find?_append, hn, Option.none_or, List.find?_cons, hq]
  rw [List.take_succ_eq_append_getElem h, List.find?_append, hn]
  simp [List.find?_cons, hq]
set_option maxHeartbeats 4000000 in
set_option maxRecDepth 100000 in
theorem place_Owner.calls (A0 : Option Addr) (c0 : Nat) (l0 : List S32) (a1 : Int) (r : Int) (w : World) (hr0 : Kd.C k32 w A0 l0.length l0) (hc0 : l0.length ≤ c0) (h : place_Owner.f l0 a1 = some r) :
    Calls Try.prog 15 #[.slice A0 l0.length c0, .int .i64 a1] w fun e w' => e = .returned (.int .i64 r) ∧ Below w.heap.size w w' := by
  have hm : l0.length ≤ 9223372036854775807 := hr0.2.1
  have HR := Aside0.mk hr0
  have HF : Hid (((l0.find? (ownB a1)).map S32.f0).getD (-1) = r) := Option.some.inj h
  clear h hr0
  have hbx : (w.alloc (.cells #[.int .i64 a1] 3)).cell? ⟨w.heap.size, 0, none⟩ = some (.int .i64 a1) := by simp [go_sem]
  have HX := Aside0.mk hbx
  clear hbx
  go_enter Try.func15, Try.ntmps15
  go_wp2
  go_loopw [11] (fun i wr => ∃ k : Nat, k ≤ l0.length ∧ i = .int .i64 k ∧ (l0.take k).find? (ownB a1) = none ∧ Aside0 (wr.cell? ⟨w.heap.size, 0, none⟩ = some (.int .i64 a1)) ∧ Aside0 (Below w.heap.size w wr)) (fun i _ => l0.length - (intOf i).toNat)
  case atStart => exact ⟨0, Nat.zero_le _, rfl, rfl, ⟨HX.out⟩, ⟨below_alloc (Below.refl _ _) _⟩⟩
  case round =>
    obtain ⟨k, hk, rfl, hn, HC, HB⟩ := hrel
    by_cases hlt : k < l0.length
    · have hs := Lib.hid (find_snoc (ownB a1) l0 k hlt hn)
      have hn' := Lib.hid hn
      clear hn
      obtain ⟨ad, rfl, hx0, hx1, hx2⟩ := at_T32 HR.out (k : Int) (by omega) (by omega)
      have hg : rd_T32 l0 (k : Int) = l0[k] := by simp [rd_T32, hlt]
      rw [hg] at hx0 hx1 hx2
      rw [Int.toNat_natCast] at hx0 hx1 hx2
      replace hx0 := (HB.out.cell (World.block_lt_of_cell? w _ hx0)).trans hx0
      replace hx1 := (HB.out.cell (World.block_lt_of_cell? w _ hx1)).trans hx1
      replace hx2 := (HB.out.cell (World.block_lt_of_cell? w _ hx2)).trans hx2
      obtain ⟨p, hp⟩ : ∃ p, p = l0[k] := ⟨_, rfl⟩
      rw [← hp] at hx0 hx1 hx2 hs
      have HP := Lib.hid hp
      clear hp hg
      have hb1 := below_alloc HB.out (.cells #[.int .i64 p.f0, .int .i64 p.f1, .int .i64 p.f2] 32)
      have hcc : (wr.alloc (.cells #[.int .i64 p.f0, .int .i64 p.f1, .int .i64 p.f2] 32)).cell? ⟨w.heap.size, 0, none⟩ = some (.int .i64 a1) :=
        ((Below.refl wr.heap.size wr).alloc (Nat.le_refl _) _).cell (p := ⟨w.heap.size, 0, none⟩) (World.block_lt_of_cell? wr _ HC.out) |>.trans HC.out
      have hff : (wr.alloc (.cells #[.int .i64 p.f0, .int .i64 p.f1, .int .i64 p.f2] 32)).cell? ⟨wr.heap.size, 0, none⟩ = some (.int .i64 p.f0) := by simp [go_sem]
      have HC2 := Aside0.mk hcc
      have HF2 := Aside0.mk hff
      have HB1 := Aside0.mk hb1
      clear hcc hff hb1
      cases hq : ownB a1 p
      all_goals
        have HQ := Lib.hid hq
        clear hq
        go_wp2_with (go_at_call 31; refine (owner_has p a1 w.heap.size _ HC2.out).mono ?_; rintro e w2 ⟨rfl, hb⟩; rw [HQ.out]; have hc0 := (hb.cell (p := ⟨wr.heap.size, 0, none⟩) (World.block_lt_of_cell? _ _ HF2.out)).trans HF2.out; have HB2 := Aside0.mk (below_step HB1.out hb); have HC3 := Aside0.mk ((hb.cell (p := ⟨w.heap.size, 0, none⟩) (World.block_lt_of_cell? _ _ HC2.out)).trans HC2.out); clear hb hx0 hx1 hx2)
      · go_roundw
        case rel => exact ⟨k + 1, by omega, by go_num, hs.out.2 HQ.out, HC3, HB2⟩
        case measure => simp [intOf]; omega
      go_ret
      refine ⟨?_, HB2.out⟩
      rw [← HF.out, hs.out.1 HQ.out]
      rfl
    have hk' := Lib.hid (show k = l0.length by omega)
    go_wp2
    go_ret
    refine ⟨?_, HB.out⟩
    rw [← HF.out, show l0.take k = l0 by rw [hk'.out, List.take_length]] at *
    rw [hn]
    rfl

end Go.Proofs.Ytcbdgknfkoodoaa.F
