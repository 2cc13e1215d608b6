/- The row of the law FlightNone, out of its walk. Written by rowgen.py. -/
import Derived.Test.YthmeakkpmielmaaRows
import Derived.Test.YthmeakkpmielmaaFinFlightNone
import Derived.Test.YthmeakkpmielmaaRow
import Derived.WalkKit
import Derived.ProofKit
import Derived.OpenShut
import Derived.ShutString
import Derived.ChangeOld
import Derived.Below
import Derived.SizedLaws
import Derived.Lib.SmallJoins
namespace Go.Proofs.Ythmeakkpmielmaa.flightNone
open Go.ChangeShapes Go.WideShapes Go.ChangeAt Go.RowKit Go.Proofs.Ythmeakkpmielmaa.P Go.Proofs.YthmeakkpmielmaaW.PrintWords
open Go.ChangeMaps (open_string shut_string)
set_option linter.unusedVariables false
theorem own : ownKnob Try.prog.godebug = none := by kernel_rfl
theorem laidOut : laidOutB Try.prog = true := by kernel_rfl
set_option maxRecDepth 100000 in
theorem lifted (os : Os) (started : os.Started) (H : Type) (enc : TypeId × Value → H) :
    ReturnsInHanded {} Try.checked os 9 .any (Rows.flightNoneSpec.pre6 enc Try.prog Try.f9 Rows.flightNoneRow.domain false) (Rows.flightNoneSpec.post enc Try.prog Try.f9 false true false false) := by
  refine returnsInHanded_of_change_sized (C := Try.checked) own started (by kernel_rfl) Try.func9
    (ChangeSpec.witness6 (enc := enc) (C := Try.checked) false ⟨#[], #[.agg #[.int .i64 0, .int .i64 0, .int .i64 0, .int .u32 0, .string ByteArray.empty]], []⟩ 8 (by kernel_rfl) (by kernel_rfl) (by kernel_rfl) (by kernel_rfl)) ?_
  intro W base args ds gs before hval0 hW hcnd hsz0 _
  have hsz : (DataW.weightsEach Try.prog (Try.f9.params.toList ++ Rows.flightNoneSpec.plain.varTypes Try.prog) (ds ++ gs)).all (· ≤ reachBytes) = true := hsz0
  have hval : ∀ (j : Nat) t v, Try.f9.params[j]? = some t → args[j]? = some v → Value.okWide Try.prog W .any base t v := hval0
  have hW' := hW
  obtain ⟨p, q, hA0, hV, rfl, hfz, hnd⟩ := hW
  have hA : DataW.TrodAll enc Try.prog W 0 (fun _ => true) true Try.f9.params.toList args.toList ds p := hA0
  rw [Try.params9] at hA hval hsz
  obtain ⟨v0, vs0, d0, ds0, p0, q0, hargs, rfl, rfl, h0, r0⟩ := trodAll_cons hA
  obtain ⟨rfl, rfl, rfl⟩ := trodAll_nil r0
  obtain rfl : args = #[v0] := by cases args; simp_all
  obtain ⟨rfl, rfl⟩ := trodVars_none hV
  obtain ⟨cs0, rfl, hz0⟩ := okWide_struct Try.underlying38 (hval 0 38 v0 rfl rfl)
  obtain ⟨cs0⟩ := cs0
  have hz0' : cs0.length = 5 := hz0.trans (show Try.prog.cellsOf 38 = 5 by kernel_rfl)
  obtain ⟨c0_0, c0_1, c0_2, c0_3, c0_4, rfl⟩ := R.list5 hz0'
  have k0 := h0
  have lt0 : ∀ x ∈ p0, x.block < W.heap.size := by obtain ⟨m, hm⟩ := k0; exact DataW.trod_lt m _ _ _ hm
  obtain ⟨fu0, hf0⟩ := h0
  obtain ⟨m0, hfl0⟩ := R.struct_fields Try.underlying38 hf0
  obtain ⟨y0_0, g0_0⟩ := hfl0 0 _ c0_0 rfl (by kernel_rfl) rfl
  obtain ⟨a0_0, e_a0_0, _, w0_0⟩ := DataW.trod_int Try.underlying3 g0_0
  obtain rfl := (List.cons.inj e_a0_0).1
  obtain ⟨y0_1, g0_1⟩ := hfl0 1 _ c0_1 rfl (by kernel_rfl) rfl
  obtain ⟨a0_1, e_a0_1, _, w0_1⟩ := DataW.trod_int Try.underlying3 g0_1
  obtain rfl := (List.cons.inj e_a0_1).1
  obtain ⟨y0_2, g0_2⟩ := hfl0 2 _ c0_2 rfl (by kernel_rfl) rfl
  obtain ⟨a0_2, e_a0_2, _, w0_2⟩ := DataW.trod_int Try.underlying3 g0_2
  obtain rfl := (List.cons.inj e_a0_2).1
  obtain ⟨y0_3, g0_3⟩ := hfl0 3 _ c0_3 rfl (by kernel_rfl) rfl
  obtain ⟨a0_3, e_a0_3, _, w0_3⟩ := DataW.trod_int Try.underlying26 g0_3
  obtain rfl := (List.cons.inj e_a0_3).1
  obtain ⟨y0_4, g0_4⟩ := hfl0 4 _ c0_4 rfl (by kernel_rfl) rfl
  obtain ⟨a0_4, e_a0_4, _, w0_4⟩ := DataW.trod_string Try.underlying9 g0_4
  obtain rfl := (List.cons.inj e_a0_4).1
  clear hA0 hval0 hsz0 hsz
  refine (R.FlightNone_fin a0_0 a0_1 a0_2 a0_3 a0_4 W w0_0 w0_1 w0_2 w0_3 w0_4).mono fun e W' ⟨he, bel⟩ => ?_
  subst he
  exact ⟨_, rfl, _, _, _, [], _, [], hW', trodAll_mk1 (shut_bool Try.underlying4 _), (trodAll_cons_mk (Below.trod laidOut (by kernel_rfl) (of_decide_eq_true (by kernel_rfl)) k0 bel lt0) trodAll_mk0), rfl, bel.frame _, fun h => by cases h⟩
theorem over : Rows.flightNoneRow.holds Try.pinned (OpenSpec.ofChange Rows.flightNoneSpec) :=
  OpenClaim.holds_of_wide 9 Try.f9 rfl rfl rfl rfl rfl rfl rfl ⟨rfl, rfl, rfl, rfl, rfl⟩ rfl rfl rfl rfl rfl (by kernel_rfl) Try.func9 (by kernel_rfl)
    (of_decide_eq_true (by kernel_rfl)) (by unfold Func.isWrapper; first | (rw [if_pos (by decide +kernel)]; kernel_rfl) | (rw [if_neg (by decide +kernel)]; exact ⟨rfl, rfl⟩))
    (fun os started H enc _ => lifted os started H enc)
theorem proved : Rows.FlightNoneSaid := over
#print axioms proved
end Go.Proofs.Ythmeakkpmielmaa.flightNone
namespace Go.Proofs.Ythmeakkpmielmaa
/-- The row, under a short name, for the claim. -/
theorem flightNone_holds : Rows.FlightNoneSaid := flightNone.proved
end Go.Proofs.Ythmeakkpmielmaa
