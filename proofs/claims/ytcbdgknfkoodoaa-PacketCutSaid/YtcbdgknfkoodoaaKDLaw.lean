/- The law answers true at every input, and the input reads behind the call as it did. No conditions beyond those stated. -/
import Derived.Test.YtcbdgknfkoodoaaKD8
import Derived.Test.YtcbdgknfkoodoaaRows
import Derived.WalkKit
import Derived.ProofKit
import Derived.OpenShut
import Derived.ShutString
import Derived.ChangeOld
import Derived.Below
import Derived.SizedLaws
namespace Go.Proofs.Ytcbdgknfkoodoaa.packetCut
open Go.ChangeShapes Go.WideShapes Go.ChangeAt Go.RowKit Go.Proofs.YtcbdgknfkoodoaaW.PrintWords Go.Proofs.YtcbdgknfkoodoaaW.RowKd
open Go.ChangeMaps (open_string shut_string)
set_option linter.unusedVariables false
theorem own : ownKnob Try.prog.godebug = none := by kernel_rfl
theorem laidOut : laidOutB Try.prog = true := by kernel_rfl
set_option maxRecDepth 100000 in
theorem lifted (os : Os) (started : os.Started) (H : Type) (enc : TypeId × Value → H) :
    ReturnsInHanded {} Try.checked os 8 .any (Rows.packetCutSpec.pre6 enc Try.prog Try.f8 Rows.packetCutRow.domain false) (Rows.packetCutSpec.post enc Try.prog Try.f8 false true false false) := by
  refine returnsInHanded_of_change_sized (C := Try.checked) own started (by kernel_rfl) Try.func8
    (ChangeSpec.witness6 (enc := enc) (C := Try.checked) false ⟨#[], #[.agg #[.bool false, .bool false, .bool false, .int .i64 0, .int .u16 0, .int .u32 0, .int .u32 0, .slice none 0 0, .int .u16 0, .slice none 0 0, .slice none 0 0, .int .i64 0], .int .u16 0, .slice none 0 0], []⟩ 8 (by kernel_rfl) (by kernel_rfl) (by kernel_rfl) (by kernel_rfl)) ?_
  intro W base args ds gs before hval0 hW hcnd hsz0 _
  have hval : ∀ (j : Nat) t v, Try.f8.params[j]? = some t → args[j]? = some v → Value.okWide Try.prog W .any base t v := hval0
  have hW' := hW
  obtain ⟨p, q, hA0, hV, rfl, hfz, hnd⟩ := hW
  have hA : DataW.TrodAll enc Try.prog W 0 (fun _ => true) true Try.f8.params.toList args.toList ds p := hA0
  rw [Try.params8] at hA hval
  obtain ⟨v0, vs0, d0, ds0, p0, q0, hargs, rfl, rfl, h0, r0⟩ := trodAll_cons hA
  obtain ⟨v1, vs1, d1, ds1, p1, q1, rfl, rfl, rfl, h1, r1⟩ := trodAll_cons r0
  obtain ⟨v2, vs2, d2, ds2, p2, q2, rfl, rfl, rfl, h2, r2⟩ := trodAll_cons r1
  obtain ⟨rfl, rfl, rfl⟩ := trodAll_nil r2
  obtain rfl : args = #[v0, v1, v2] := by cases args; simp_all
  obtain ⟨rfl, rfl⟩ := trodVars_none hV
  have k0 := h0
  have lt0 : ∀ x ∈ p0, x.block < W.heap.size := by obtain ⟨m, hm⟩ := k0; exact DataW.trod_lt m _ _ _ hm
  obtain ⟨y0, K0, Q0⟩ := Opn.read (F.op_T45) h0
  obtain ⟨cs0, rfl, _⟩ := okWide_struct Try.underlying45 (hval 0 45 v0 rfl rfl)
  obtain ⟨⟨a0_0, a0_1, a0_2, a0_3, a0_4, a0_5, a0_6, l0_7⟩, a0_8, l0_9, l0_10, a0_11⟩ := y0
  obtain ⟨⟨_, _, _, hw0_3, hw0_4, hw0_5, hw0_6, ⟨hm0_7, hw0_7⟩⟩, hw0_8, ⟨hm0_9, hw0_9⟩, ⟨hm0_10, hw0_10⟩, hw0_11⟩ := Q0
  obtain ⟨A0_7, c0_7, A0_9, c0_9, A0_10, c0_10,  e0, hc0_7, hr0_7, hc0_9, hr0_9, hc0_10, hr0_10⟩ : ∃ A0_7 c0_7 A0_9 c0_9 A0_10 c0_10, cs0 = #[.bool a0_0, .bool a0_1, .bool a0_2, .int .i64 a0_3, .int .u16 a0_4, .int .u32 a0_5, .int .u32 a0_6, .slice A0_7 l0_7.length c0_7, .int .u16 a0_8, .slice A0_9 l0_9.length c0_9, .slice A0_10 l0_10.length c0_10, .int .i64 a0_11] ∧ l0_7.length ≤ c0_7 ∧ Kd.C (Kd.int .u32) W A0_7 l0_7.length l0_7 ∧ l0_9.length ≤ c0_9 ∧ Kd.C (Kd.int .u8) W A0_9 l0_9.length l0_9 ∧ l0_10.length ≤ c0_10 ∧ Kd.C (Kd.int .u8) W A0_10 l0_10.length l0_10 := by
    obtain ⟨cl0⟩ := cs0
    obtain ⟨_, _, e0, ⟨_, _, rfl, rfl, ⟨_, _, rfl, rfl, ⟨_, _, rfl, rfl, ⟨_, _, rfl, rfl, ⟨_, _, rfl, rfl, ⟨_, _, rfl, rfl, ⟨_, _, rfl, rfl, ⟨A0_7, c0_7, rfl, hc0_7, hr0_7⟩⟩⟩⟩⟩⟩⟩⟩, ⟨_, _, rfl, rfl, ⟨_, _, rfl, ⟨A0_9, c0_9, rfl, hc0_9, hr0_9⟩, ⟨_, _, rfl, ⟨A0_10, c0_10, rfl, hc0_10, hr0_10⟩, rfl⟩⟩⟩⟩ := K0
    exact ⟨A0_7, c0_7, A0_9, c0_9, A0_10, c0_10,  by rw [show cl0 = _ from e0]; rfl, hc0_7, hr0_7, hc0_9, hr0_9, hc0_10, hr0_10⟩
  subst e0
  have k1 := h1
  have lt1 : ∀ x ∈ p1, x.block < W.heap.size := by obtain ⟨m, hm⟩ := k1; exact DataW.trod_lt m _ _ _ hm
  obtain ⟨y1, K1, Q1⟩ := Opn.read (op_int Try.underlying39) h1
  obtain ⟨n1, rfl⟩ := okWide_int Try.underlying39 (hval 1 39 v1 rfl rfl)
  obtain rfl : n1 = y1 := by have z : (Value.int .u16 n1).cells.toList = [Value.int .u16 y1] := K1; simpa [Value.cells] using z
  have k2 := h2
  have lt2 : ∀ x ∈ p2, x.block < W.heap.size := by obtain ⟨m, hm⟩ := k2; exact DataW.trod_lt m _ _ _ hm
  obtain ⟨y2, K2, Q2⟩ := Opn.read (op_slice 5 Try.underlying22 (by kernel_rfl) (op_int Try.underlying5)) h2
  obtain ⟨aa2, len2, cap2, rfl⟩ := okWide_slice Try.underlying22 (hval 2 22 v2 rfl rfl)
  obtain ⟨A2, c2, e2, hc2, hr2⟩ := K2
  obtain ⟨hm2, hw2⟩ := Q2
  obtain ⟨rfl, rfl, rfl⟩ : aa2 = A2 ∧ len2 = y2.length ∧ cap2 = c2 := by simpa [Value.cells] using e2
  obtain ⟨k, h⟩ := Pure.PacketCut a0_0 a0_1 a0_2 a0_3 a0_4 a0_5 a0_6 l0_7 a0_8 l0_9 l0_10 a0_11 n1 y2 hw0_3 hw0_4 hw0_5 hw0_6 hm0_7 hw0_7 hw0_8 hm0_9 hw0_9 hm0_10 hw0_10 hw0_11 Q1 hm2 hw2
  refine (F.crossbarlaw06_PacketCut.calls k _ _ _ _ _ _ _ _ _ _ _ _ _ _ _ _ _ _ _ _ _ _ true W hr0_7 hc0_7 hr0_9 hc0_9 hr0_10 hc0_10 hr2 hc2 h).mono fun e W' ⟨he, bel⟩ => ?_
  subst he
  exact ⟨_, rfl, _, _, _, [], _, [], hW', trodAll_mk1 (shut_bool Try.underlying4 _), (trodAll_cons_mk (Below.trod laidOut (by kernel_rfl) (of_decide_eq_true (by kernel_rfl)) k0 bel lt0) (trodAll_cons_mk (Below.trod laidOut (by kernel_rfl) (of_decide_eq_true (by kernel_rfl)) k1 bel lt1) (trodAll_cons_mk (Below.trod laidOut (by kernel_rfl) (of_decide_eq_true (by kernel_rfl)) k2 bel lt2) trodAll_mk0))), rfl, bel.frame _, fun h => by cases h⟩
theorem over : Rows.packetCutRow.holds Try.pinned (OpenSpec.ofChange Rows.packetCutSpec) :=
  OpenClaim.holds_of_wide 8 Try.f8 rfl rfl rfl rfl rfl rfl rfl ⟨rfl, rfl, rfl, rfl, rfl⟩ rfl rfl rfl rfl rfl (by kernel_rfl) Try.func8 (by kernel_rfl)
    (of_decide_eq_true (by kernel_rfl)) (by unfold Func.isWrapper; first | (rw [if_pos (by decide +kernel)]; kernel_rfl) | (rw [if_neg (by decide +kernel)]; exact ⟨rfl, rfl⟩))
    (fun os started H enc _ => lifted os started H enc)
theorem proved : Rows.PacketCutSaid := over
#print axioms proved
end Go.Proofs.Ytcbdgknfkoodoaa.packetCut
namespace Go.Proofs.Ytcbdgknfkoodoaa
theorem packetCut_holds : Rows.PacketCutSaid := packetCut.proved
end Go.Proofs.Ytcbdgknfkoodoaa
