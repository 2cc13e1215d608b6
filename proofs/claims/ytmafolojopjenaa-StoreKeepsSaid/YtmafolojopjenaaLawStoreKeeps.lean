/- The row of the law StoreKeeps, out of its walk. Written by rowgen.py. -/
import Derived.Test.YtmafolojopjenaaRows
import Derived.Test.YtmafolojopjenaaFinStoreKeeps
import Derived.Test.YtmafolojopjenaaRow
import Derived.WalkKit
import Derived.ProofKit
import Derived.OpenShut
import Derived.ShutString
import Derived.ChangeOld
import Derived.Below
import Derived.SizedLaws
import Derived.Lib.SmallJoins
namespace Go.Proofs.Ytmafolojopjenaa.storeKeeps
open Go.ChangeShapes Go.WideShapes Go.ChangeAt Go.RowKit Go.Proofs.Ytmafolojopjenaa.P Go.Proofs.YtmafolojopjenaaW.PrintWords
open Go.ChangeMaps (open_string shut_string)
set_option linter.unusedVariables false
theorem own : ownKnob Try.prog.godebug = none := by kernel_rfl
theorem laidOut : laidOutB Try.prog = true := by kernel_rfl
theorem el_54 {H : Type} {enc : TypeId × Value → H} {w : World} {base : Nat} {spare : Nat → Bool} {held : Bool} : ∀ (n : Nat) (cs : List Value) (y : DataW H × List MemPlace), DataW.trod enc Try.prog w base spare held n 54 cs = some y → cs.length = k54.sz → ∃ z : S54, k54.K w z cs ∧ ((Lit.int .i64 z.f0).wf = true ∧ z.f1.size ≤ maxLen ∧ (Lit.int .i64 z.f2).wf = true) := by
  intro n cs y h hl
  obtain ⟨m, hfl⟩ := R.struct_fields Try.underlying54 h
  obtain ⟨c0, c1, c2, rfl⟩ : ∃ b0 b1 b2, cs = [b0, b1, b2] := by
    match cs, hl with
    | [b0, b1, b2], _ => exact ⟨b0, b1, b2, rfl⟩
  obtain ⟨y0, g0⟩ := hfl 0 _ c0 rfl (by kernel_rfl) rfl
  obtain ⟨a0, e_a0, _, w0⟩ := DataW.trod_int Try.underlying3 g0
  obtain rfl := (List.cons.inj e_a0).1
  obtain ⟨y1, g1⟩ := hfl 1 _ c1 rfl (by kernel_rfl) rfl
  obtain ⟨a1, e_a1, _, w1⟩ := DataW.trod_string Try.underlying9 g1
  obtain rfl := (List.cons.inj e_a1).1
  obtain ⟨y2, g2⟩ := hfl 2 _ c2 rfl (by kernel_rfl) rfl
  obtain ⟨a2, e_a2, _, w2⟩ := DataW.trod_int Try.underlying3 g2
  obtain rfl := (List.cons.inj e_a2).1
  exact ⟨⟨a0, a1, a2⟩, ⟨[_], [_, _], rfl, rfl, ⟨[_], [_], rfl, rfl, rfl⟩⟩, w0, w1, w2⟩
set_option maxRecDepth 100000 in
theorem lifted (os : Os) (started : os.Started) (H : Type) (enc : TypeId × Value → H) :
    ReturnsInHanded {} Try.checked os 13 .any (Rows.storeKeepsSpec.pre6 enc Try.prog Try.f13 Rows.storeKeepsRow.domain false) (Rows.storeKeepsSpec.post enc Try.prog Try.f13 false true false false) := by
  refine returnsInHanded_of_change_sized (C := Try.checked) own started (by kernel_rfl) Try.func13
    (ChangeSpec.witness6 (enc := enc) (C := Try.checked) false ⟨#[], #[.slice none 0 0], []⟩ 8 (by kernel_rfl) (by kernel_rfl) (by kernel_rfl) (by kernel_rfl)) ?_
  intro W base args ds gs before hval0 hW hcnd hsz0 _
  have hsz : (DataW.weightsEach Try.prog (Try.f13.params.toList ++ Rows.storeKeepsSpec.plain.varTypes Try.prog) (ds ++ gs)).all (· ≤ reachBytes) = true := hsz0
  have hval : ∀ (j : Nat) t v, Try.f13.params[j]? = some t → args[j]? = some v → Value.okWide Try.prog W .any base t v := hval0
  have hW' := hW
  obtain ⟨p, q, hA0, hV, rfl, hfz, hnd⟩ := hW
  have hA : DataW.TrodAll enc Try.prog W 0 (fun _ => true) true Try.f13.params.toList args.toList ds p := hA0
  rw [Try.params13] at hA hval hsz
  obtain ⟨v0, vs0, d0, ds0, p0, q0, hargs, rfl, rfl, h0, r0⟩ := trodAll_cons hA
  obtain ⟨rfl, rfl, rfl⟩ := trodAll_nil r0
  obtain rfl : args = #[v0] := by cases args; simp_all
  obtain ⟨rfl, rfl⟩ := trodVars_none hV
  obtain ⟨A0, len0, c0, rfl⟩ := okWide_slice Try.underlying51 (hval 0 51 v0 rfl rfl)
  have k0 := h0
  have lt0 : ∀ x ∈ p0, x.block < W.heap.size := by obtain ⟨m, hm⟩ := k0; exact DataW.trod_lt m _ _ _ hm
  obtain ⟨l0, rfl, hr0, hc0, hm0, hw0⟩ := R.slice_kd k54 _ Try.underlying51 (by kernel_rfl) el_54 h0
  clear hA0 hval0 hsz0 hsz
  refine (R.StoreKeeps_fin A0 c0 l0 W hr0 hc0 hm0 hw0).mono fun e W' ⟨he, bel⟩ => ?_
  subst he
  exact ⟨_, rfl, _, _, _, [], _, [], hW', trodAll_mk1 (shut_bool Try.underlying4 _), (trodAll_cons_mk (Below.trod laidOut (by kernel_rfl) (of_decide_eq_true (by kernel_rfl)) k0 bel lt0) trodAll_mk0), rfl, bel.frame _, fun h => by cases h⟩
theorem over : Rows.storeKeepsRow.holds Try.pinned (OpenSpec.ofChange Rows.storeKeepsSpec) :=
  OpenClaim.holds_of_wide 13 Try.f13 rfl rfl rfl rfl rfl rfl rfl ⟨rfl, rfl, rfl, rfl, rfl⟩ rfl rfl rfl rfl rfl (by kernel_rfl) Try.func13 (by kernel_rfl)
    (of_decide_eq_true (by kernel_rfl)) (by unfold Func.isWrapper; first | (rw [if_pos (by decide +kernel)]; kernel_rfl) | (rw [if_neg (by decide +kernel)]; exact ⟨rfl, rfl⟩))
    (fun os started H enc _ => lifted os started H enc)
theorem proved : Rows.StoreKeepsSaid := over
#print axioms proved
end Go.Proofs.Ytmafolojopjenaa.storeKeeps
namespace Go.Proofs.Ytmafolojopjenaa
/-- The row, under a short name, for the claim. -/
theorem storeKeeps_holds : Rows.StoreKeepsSaid := storeKeeps.proved
end Go.Proofs.Ytmafolojopjenaa
