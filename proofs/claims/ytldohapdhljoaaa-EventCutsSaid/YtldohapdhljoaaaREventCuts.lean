/- The row of the law governorlaw09_EventCuts, out of its plain statement and of what its call comes to. -/
import Derived.Test.YtldohapdhljoaaaRows
import Derived.Test.YtldohapdhljoaaaCEventCuts
import Derived.Test.YtldohapdhljoaaaBb
import Derived.Test.YtldohapdhljoaaaBj
import Derived.WalkKit
import Derived.ProofKit
import Derived.OpenShut
import Derived.ShutString
import Derived.ChangeOld
import Derived.Below
import Derived.SizedLaws
namespace Go.Proofs.Ytldohapdhljoaaa.eventCuts
open Go.ChangeShapes Go.WideShapes Go.ChangeAt Go.RowKit Go.Proofs.Ytldohapdhljoaaa.Print Go.Proofs.YtldohapdhljoaaaW.PrintWords Go.Proofs.YtldohapdhljoaaaW.Open
open Go.ChangeMaps (open_string shut_string)
set_option linter.unusedVariables false
theorem own : ownKnob Try.prog.godebug = none := by kernel_rfl
theorem laidOut : laidOutB Try.prog = true := by kernel_rfl
set_option maxRecDepth 100000 in
theorem lifted (os : Os) (started : os.Started) (H : Type) (enc : TypeId × Value → H) :
    ReturnsInHanded {} Try.checked os 5 .any (Rows.eventCutsSpec.pre6 enc Try.prog Try.f5 Rows.eventCutsRow.domain false) (Rows.eventCutsSpec.post enc Try.prog Try.f5 false true false false) := by
  refine returnsInHanded_of_change_sized (C := Try.checked) own started (by kernel_rfl) Try.func5
    (ChangeSpec.witness6 (enc := enc) (C := Try.checked) false ⟨#[], #[.agg #[.int .i64 0, .int .i64 0, .int .i64 0, .int .i64 0, .int .i64 0, .int .i64 0, .int .i64 0, .int .i64 0, .slice none 0 0, .int .i64 0, .int .i64 0, .int .i64 0, .int .i64 0, .slice none 0 0, .int .i64 0, .int .i64 0, .int .i64 0, .int .i64 0, .int .i64 0, .int .i64 0, .int .i64 0, .int .i64 0, .int .i64 0, .int .i64 0, .int .i64 0, .int .i64 0, .slice none 0 0], .int .u16 0, .int .u8 0], []⟩ 8 (by kernel_rfl) (by kernel_rfl) (by kernel_rfl) (by kernel_rfl)) ?_
  intro W base args ds gs before hval0 hW hcnd hsz0 _
  have hsz : (DataW.weightsEach Try.prog (Try.f5.params.toList ++ Rows.eventCutsSpec.plain.varTypes Try.prog) (ds ++ gs)).all (· ≤ reachBytes) = true := hsz0
  have hval : ∀ (j : Nat) t v, Try.f5.params[j]? = some t → args[j]? = some v → Value.okWide Try.prog W .any base t v := hval0
  have hW' := hW
  obtain ⟨p, q, hA0, hV, rfl, hfz, hnd⟩ := hW
  have hA : DataW.TrodAll enc Try.prog W 0 (fun _ => true) true Try.f5.params.toList args.toList ds p := hA0
  rw [Try.params5] at hA hval hsz
  obtain ⟨v0, vs0, d0, ds0, p0, q0, hargs, rfl, rfl, h0, r0⟩ := trodAll_cons hA
  obtain ⟨v1, vs1, d1, ds1, p1, q1, rfl, rfl, rfl, h1, r1⟩ := trodAll_cons r0
  obtain ⟨v2, vs2, d2, ds2, p2, q2, rfl, rfl, rfl, h2, r2⟩ := trodAll_cons r1
  obtain ⟨rfl, rfl, rfl⟩ := trodAll_nil r2
  obtain rfl : args = #[v0, v1, v2] := by cases args; simp_all
  obtain ⟨rfl, rfl⟩ := trodVars_none hV
  have k0 := h0
  have lt0 : ∀ x ∈ p0, x.block < W.heap.size := by obtain ⟨m, hm⟩ := k0; exact DataW.trod_lt m _ _ _ hm
  obtain ⟨cs0, x0, rfl, K0, w0⟩ := struct_arg Try.underlying30 op30 (hval 0 30 v0 rfl rfl) h0
  obtain ⟨A0_8, c0_8, A0_13, c0_13, A0_26, c0_26, rfl, g0_8, C0_8, g0_13, C0_13, g0_26, C0_26⟩ := k30_open K0
  obtain ⟨a1, rfl, rfl, rfl, w1⟩ := open_int Try.underlying41 (hval 1 41 v1 rfl rfl) h1
  obtain ⟨a2, rfl, rfl, rfl, w2⟩ := open_int Try.underlying5 (hval 2 5 v2 rfl rfl) h2
  clear hA0 hval0 hsz0 hsz
  have h := Pure.EventCuts x0 a1 a2 w0 w1 w2
  refine (governorlaw09_EventCuts.calls x0.f0 x0.f1 x0.f2 x0.f3 x0.f4 x0.f5 x0.f6.f0 x0.f6.f1 A0_8 c0_8 x0.f6.f2 x0.f6.f3 x0.f6.f4 x0.f6.f5 x0.f6.f6 A0_13 c0_13 x0.f6.f7 x0.f7.f0 x0.f7.f1 x0.f7.f2 x0.f7.f3 x0.f7.f4 x0.f7.f5 x0.f7.f6 x0.f7.f7 x0.f7.f8 x0.f7.f9 x0.f7.f10 x0.f7.f11 A0_26 c0_26 x0.f8 a1 a2 true W C0_8 g0_8 C0_13 g0_13 C0_26 g0_26 h (Go.Proofs.Ytldohapdhljoaaa.Wire.nf_arg ⟨x0.f0, x0.f1, x0.f2, x0.f3, x0.f4, x0.f5, ⟨x0.f6.f0, x0.f6.f1, x0.f6.f2, x0.f6.f3, x0.f6.f4, x0.f6.f5, x0.f6.f6, x0.f6.f7⟩, ⟨x0.f7.f0, x0.f7.f1, x0.f7.f2, x0.f7.f3, x0.f7.f4, x0.f7.f5, x0.f7.f6, x0.f7.f7, x0.f7.f8, x0.f7.f9, x0.f7.f10, x0.f7.f11⟩, x0.f8⟩ k0 (fun b off hm => hfz b off (List.mem_append_left _ (List.mem_append_left _ hm)))) ⟨Go.Proofs.Ytldohapdhljoaaa.Wire.wf_ev x0 w0, Go.Proofs.Ytldohapdhljoaaa.Wire.wf_u16 w1, Go.Proofs.Ytldohapdhljoaaa.Wire.wf_u8 w2⟩).mono fun e W' hpost => ?_
  obtain ⟨he, bel0⟩ := hpost
  have bel : Below W.heap.size W W' := bel0
  subst he
  exact ⟨_, rfl, _, _, _, [], _, [], hW', trodAll_mk1 (shut_bool Try.underlying4 _), (trodAll_cons_mk (Below.trod laidOut (by kernel_rfl) (of_decide_eq_true (by kernel_rfl)) k0 bel lt0) (trodAll_cons_mk (shut_int Try.underlying41 w1) (trodAll_cons_mk (shut_int Try.underlying5 w2) trodAll_mk0))), rfl, bel.frame _, fun h => by cases h⟩
theorem over : Rows.eventCutsRow.holds Try.pinned (OpenSpec.ofChange Rows.eventCutsSpec) :=
  OpenClaim.holds_of_wide 5 Try.f5 rfl rfl rfl rfl rfl rfl rfl ⟨rfl, rfl, rfl, rfl, rfl⟩ rfl rfl rfl rfl rfl (by kernel_rfl) Try.func5 (by kernel_rfl)
    (of_decide_eq_true (by kernel_rfl)) (by unfold Func.isWrapper; first | (rw [if_pos (by decide +kernel)]; kernel_rfl) | (rw [if_neg (by decide +kernel)]; exact ⟨rfl, rfl⟩))
    (fun os started H enc _ => lifted os started H enc)
theorem proved : Rows.EventCutsSaid := over
#print axioms proved
end Go.Proofs.Ytldohapdhljoaaa.eventCuts
namespace Go.Proofs.Ytldohapdhljoaaa
/-- The row, under a short name, for the claim. -/
theorem eventCuts_holds : Rows.EventCutsSaid := eventCuts.proved
end Go.Proofs.Ytldohapdhljoaaa
