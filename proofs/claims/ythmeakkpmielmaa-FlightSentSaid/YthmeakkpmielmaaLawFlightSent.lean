/- The row of the law FlightSent, out of its walk. Written by rowgen.py. -/
import Derived.Test.YthmeakkpmielmaaRows
import Derived.Test.YthmeakkpmielmaaFinFlightSent
import Derived.Test.YthmeakkpmielmaaRow
import Derived.WalkKit
import Derived.ProofKit
import Derived.OpenShut
import Derived.ShutString
import Derived.ChangeOld
import Derived.Below
import Derived.SizedLaws
import Derived.Lib.SmallJoins
namespace Go.Proofs.Ythmeakkpmielmaa.flightSent
open Go.ChangeShapes Go.WideShapes Go.ChangeAt Go.RowKit Go.Proofs.Ythmeakkpmielmaa.P Go.Proofs.YthmeakkpmielmaaW.PrintWords
open Go.ChangeMaps (open_string shut_string)
set_option linter.unusedVariables false
theorem own : ownKnob Try.prog.godebug = none := by kernel_rfl
theorem laidOut : laidOutB Try.prog = true := by kernel_rfl
theorem el_38 {H : Type} {enc : TypeId × Value → H} {w : World} {base : Nat} {spare : Nat → Bool} {held : Bool} : ∀ (n : Nat) (cs : List Value) (y : DataW H × List MemPlace), DataW.trod enc Try.prog w base spare held n 38 cs = some y → cs.length = k38.sz → ∃ z : S38, k38.K w z cs ∧ ((Lit.int .i64 z.f0).wf = true ∧ (Lit.int .i64 z.f1).wf = true ∧ (Lit.int .i64 z.f2).wf = true ∧ (Lit.int .u32 z.f3).wf = true ∧ z.f4.size ≤ maxLen) := by
  intro n cs y h hl
  obtain ⟨m, hfl⟩ := R.struct_fields Try.underlying38 h
  obtain ⟨c0, c1, c2, c3, c4, rfl⟩ : ∃ b0 b1 b2 b3 b4, cs = [b0, b1, b2, b3, b4] := by
    match cs, hl with
    | [b0, b1, b2, b3, b4], _ => exact ⟨b0, b1, b2, b3, b4, rfl⟩
  obtain ⟨y0, g0⟩ := hfl 0 _ c0 rfl (by kernel_rfl) rfl
  obtain ⟨a0, e_a0, _, w0⟩ := DataW.trod_int Try.underlying3 g0
  obtain rfl := (List.cons.inj e_a0).1
  obtain ⟨y1, g1⟩ := hfl 1 _ c1 rfl (by kernel_rfl) rfl
  obtain ⟨a1, e_a1, _, w1⟩ := DataW.trod_int Try.underlying3 g1
  obtain rfl := (List.cons.inj e_a1).1
  obtain ⟨y2, g2⟩ := hfl 2 _ c2 rfl (by kernel_rfl) rfl
  obtain ⟨a2, e_a2, _, w2⟩ := DataW.trod_int Try.underlying3 g2
  obtain rfl := (List.cons.inj e_a2).1
  obtain ⟨y3, g3⟩ := hfl 3 _ c3 rfl (by kernel_rfl) rfl
  obtain ⟨a3, e_a3, _, w3⟩ := DataW.trod_int Try.underlying26 g3
  obtain rfl := (List.cons.inj e_a3).1
  obtain ⟨y4, g4⟩ := hfl 4 _ c4 rfl (by kernel_rfl) rfl
  obtain ⟨a4, e_a4, _, w4⟩ := DataW.trod_string Try.underlying9 g4
  obtain rfl := (List.cons.inj e_a4).1
  exact ⟨⟨a0, a1, a2, a3, a4⟩, ⟨[_], [_, _, _, _], rfl, rfl, ⟨[_], [_, _, _], rfl, rfl, ⟨[_], [_, _], rfl, rfl, ⟨[_], [_], rfl, rfl, rfl⟩⟩⟩⟩, w0, w1, w2, w3, w4⟩
set_option maxRecDepth 100000 in
theorem lifted (os : Os) (started : os.Started) (H : Type) (enc : TypeId × Value → H) :
    ReturnsInHanded {} Try.checked os 4 .any (Rows.flightSentSpec.pre6 enc Try.prog Try.f4 Rows.flightSentRow.domain false) (Rows.flightSentSpec.post enc Try.prog Try.f4 false true false false) := by
  refine returnsInHanded_of_change_sized (C := Try.checked) own started (by kernel_rfl) Try.func4
    (ChangeSpec.witness6 (enc := enc) (C := Try.checked) false ⟨#[], #[.slice none 0 0], []⟩ 8 (by kernel_rfl) (by kernel_rfl) (by kernel_rfl) (by kernel_rfl)) ?_
  intro W base args ds gs before hval0 hW hcnd hsz0 _
  have hsz : (DataW.weightsEach Try.prog (Try.f4.params.toList ++ Rows.flightSentSpec.plain.varTypes Try.prog) (ds ++ gs)).all (· ≤ reachBytes) = true := hsz0
  have hval : ∀ (j : Nat) t v, Try.f4.params[j]? = some t → args[j]? = some v → Value.okWide Try.prog W .any base t v := hval0
  have hW' := hW
  obtain ⟨p, q, hA0, hV, rfl, hfz, hnd⟩ := hW
  have hA : DataW.TrodAll enc Try.prog W 0 (fun _ => true) true Try.f4.params.toList args.toList ds p := hA0
  rw [Try.params4] at hA hval hsz
  obtain ⟨v0, vs0, d0, ds0, p0, q0, hargs, rfl, rfl, h0, r0⟩ := trodAll_cons hA
  obtain ⟨rfl, rfl, rfl⟩ := trodAll_nil r0
  obtain rfl : args = #[v0] := by cases args; simp_all
  obtain ⟨rfl, rfl⟩ := trodVars_none hV
  obtain ⟨A0, len0, c0, rfl⟩ := okWide_slice Try.underlying33 (hval 0 33 v0 rfl rfl)
  have k0 := h0
  have lt0 : ∀ x ∈ p0, x.block < W.heap.size := by obtain ⟨m, hm⟩ := k0; exact DataW.trod_lt m _ _ _ hm
  obtain ⟨l0, rfl, hr0, hc0, hm0, hw0⟩ := R.slice_kd k38 _ Try.underlying33 (by kernel_rfl) el_38 h0
  clear hA0 hval0 hsz0 hsz
  refine (R.FlightSent_fin A0 c0 l0 W hr0 hc0 hm0 hw0).mono fun e W' ⟨he, bel⟩ => ?_
  subst he
  exact ⟨_, rfl, _, _, _, [], _, [], hW', trodAll_mk1 (shut_bool Try.underlying4 _), (trodAll_cons_mk (Below.trod laidOut (by kernel_rfl) (of_decide_eq_true (by kernel_rfl)) k0 bel lt0) trodAll_mk0), rfl, bel.frame _, fun h => by cases h⟩
theorem over : Rows.flightSentRow.holds Try.pinned (OpenSpec.ofChange Rows.flightSentSpec) :=
  OpenClaim.holds_of_wide 4 Try.f4 rfl rfl rfl rfl rfl rfl rfl ⟨rfl, rfl, rfl, rfl, rfl⟩ rfl rfl rfl rfl rfl (by kernel_rfl) Try.func4 (by kernel_rfl)
    (of_decide_eq_true (by kernel_rfl)) (by unfold Func.isWrapper; first | (rw [if_pos (by decide +kernel)]; kernel_rfl) | (rw [if_neg (by decide +kernel)]; exact ⟨rfl, rfl⟩))
    (fun os started H enc _ => lifted os started H enc)
theorem proved : Rows.FlightSentSaid := over
#print axioms proved
end Go.Proofs.Ythmeakkpmielmaa.flightSent
namespace Go.Proofs.Ythmeakkpmielmaa
/-- The row, under a short name, for the claim. -/
theorem flightSent_holds : Rows.FlightSentSaid := flightSent.proved
end Go.Proofs.Ythmeakkpmielmaa
