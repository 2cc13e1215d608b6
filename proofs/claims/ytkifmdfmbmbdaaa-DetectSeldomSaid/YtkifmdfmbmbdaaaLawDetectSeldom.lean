/- The row of the law DetectSeldom, out of its walk. Written by rowgen.py. -/
import Derived.Test.YtkifmdfmbmbdaaaRows
import Derived.Test.YtkifmdfmbmbdaaaFinDetectSeldom
import Derived.Test.YtkifmdfmbmbdaaaRow
import Derived.WalkKit
import Derived.ProofKit
import Derived.OpenShut
import Derived.ShutString
import Derived.ChangeOld
import Derived.Below
import Derived.SizedLaws
import Derived.Lib.SmallJoins
namespace Go.Proofs.Ytkifmdfmbmbdaaa.detectSeldom
open Go.ChangeShapes Go.WideShapes Go.ChangeAt Go.RowKit Go.Proofs.Ytkifmdfmbmbdaaa.P Go.Proofs.YtkifmdfmbmbdaaaW.PrintWords
open Go.ChangeMaps (open_string shut_string)
set_option linter.unusedVariables false
theorem own : ownKnob Try.prog.godebug = none := by kernel_rfl
theorem laidOut : laidOutB Try.prog = true := by kernel_rfl
set_option maxRecDepth 100000 in
theorem lifted (os : Os) (started : os.Started) (H : Type) (enc : TypeId × Value → H) :
    ReturnsInHanded {} Try.checked os 6 .any (Rows.detectSeldomSpec.pre6 enc Try.prog Try.f6 Rows.detectSeldomRow.domain false) (Rows.detectSeldomSpec.post enc Try.prog Try.f6 false true false false) := by
  refine returnsInHanded_of_change_sized (C := Try.checked) own started (by kernel_rfl) Try.func6
    (ChangeSpec.witness6 (enc := enc) (C := Try.checked) false ⟨#[], #[.agg #[.int .u64 0, .int .u64 0, .int .u64 0], .slice none 0 0], []⟩ 8 (by kernel_rfl) (by kernel_rfl) (by kernel_rfl) (by kernel_rfl)) ?_
  intro W base args ds gs before hval0 hW hcnd hsz0 _
  have hsz : (DataW.weightsEach Try.prog (Try.f6.params.toList ++ Rows.detectSeldomSpec.plain.varTypes Try.prog) (ds ++ gs)).all (· ≤ reachBytes) = true := hsz0
  have hval : ∀ (j : Nat) t v, Try.f6.params[j]? = some t → args[j]? = some v → Value.okWide Try.prog W .any base t v := hval0
  have hW' := hW
  obtain ⟨p, q, hA0, hV, rfl, hfz, hnd⟩ := hW
  have hA : DataW.TrodAll enc Try.prog W 0 (fun _ => true) true Try.f6.params.toList args.toList ds p := hA0
  rw [Try.params6] at hA hval hsz
  obtain ⟨v0, vs0, d0, ds0, p0, q0, hargs, rfl, rfl, h0, r0⟩ := trodAll_cons hA
  obtain ⟨v1, vs1, d1, ds1, p1, q1, rfl, rfl, rfl, h1, r1⟩ := trodAll_cons r0
  obtain ⟨rfl, rfl, rfl⟩ := trodAll_nil r1
  obtain rfl : args = #[v0, v1] := by cases args; simp_all
  obtain ⟨rfl, rfl⟩ := trodVars_none hV
  obtain ⟨cs0, rfl, hz0⟩ := okWide_struct Try.underlying35 (hval 0 35 v0 rfl rfl)
  obtain ⟨cs0⟩ := cs0
  have hz0' : cs0.length = 3 := hz0.trans (show Try.prog.cellsOf 35 = 3 by kernel_rfl)
  obtain ⟨c0_0, c0_1, c0_2, rfl⟩ := R.list3 hz0'
  have k0 := h0
  have lt0 : ∀ x ∈ p0, x.block < W.heap.size := by obtain ⟨m, hm⟩ := k0; exact DataW.trod_lt m _ _ _ hm
  obtain ⟨fu0, hf0⟩ := h0
  obtain ⟨m0, hfl0⟩ := R.struct_fields Try.underlying35 hf0
  obtain ⟨y0_0, g0_0⟩ := hfl0 0 _ c0_0 rfl (by kernel_rfl) rfl
  obtain ⟨a0_0, e_a0_0, _, w0_0⟩ := DataW.trod_int Try.underlying22 g0_0
  obtain rfl := (List.cons.inj e_a0_0).1
  obtain ⟨y0_1, g0_1⟩ := hfl0 1 _ c0_1 rfl (by kernel_rfl) rfl
  obtain ⟨a0_1, e_a0_1, _, w0_1⟩ := DataW.trod_int Try.underlying22 g0_1
  obtain rfl := (List.cons.inj e_a0_1).1
  obtain ⟨y0_2, g0_2⟩ := hfl0 2 _ c0_2 rfl (by kernel_rfl) rfl
  obtain ⟨a0_2, e_a0_2, _, w0_2⟩ := DataW.trod_int Try.underlying22 g0_2
  obtain rfl := (List.cons.inj e_a0_2).1
  obtain ⟨A1, len1, c1, rfl⟩ := okWide_slice Try.underlying42 (hval 1 42 v1 rfl rfl)
  have k1 := h1
  have lt1 : ∀ x ∈ p1, x.block < W.heap.size := by obtain ⟨m, hm⟩ := k1; exact DataW.trod_lt m _ _ _ hm
  obtain ⟨l1, rfl, hr1, hc1, hm1, hw1⟩ := R.slice_kd (Kd.int .u64) _ Try.underlying42 (by kernel_rfl) (R.el_int Try.underlying22) h1
  clear hA0 hval0 hsz0 hsz
  refine (R.DetectSeldom_fin a0_0 a0_1 a0_2 A1 c1 l1 W w0_0 w0_1 w0_2 hr1 hc1 hm1 hw1).mono fun e W' ⟨he, bel⟩ => ?_
  subst he
  exact ⟨_, rfl, _, _, _, [], _, [], hW', trodAll_mk1 (shut_bool Try.underlying4 _), (trodAll_cons_mk (Below.trod laidOut (by kernel_rfl) (of_decide_eq_true (by kernel_rfl)) k0 bel lt0) (trodAll_cons_mk (Below.trod laidOut (by kernel_rfl) (of_decide_eq_true (by kernel_rfl)) k1 bel lt1) trodAll_mk0)), rfl, bel.frame _, fun h => by cases h⟩
theorem over : Rows.detectSeldomRow.holds Try.pinned (OpenSpec.ofChange Rows.detectSeldomSpec) :=
  OpenClaim.holds_of_wide 6 Try.f6 rfl rfl rfl rfl rfl rfl rfl ⟨rfl, rfl, rfl, rfl, rfl⟩ rfl rfl rfl rfl rfl (by kernel_rfl) Try.func6 (by kernel_rfl)
    (of_decide_eq_true (by kernel_rfl)) (by unfold Func.isWrapper; first | (rw [if_pos (by decide +kernel)]; kernel_rfl) | (rw [if_neg (by decide +kernel)]; exact ⟨rfl, rfl⟩))
    (fun os started H enc _ => lifted os started H enc)
theorem proved : Rows.DetectSeldomSaid := over
#print axioms proved
end Go.Proofs.Ytkifmdfmbmbdaaa.detectSeldom
namespace Go.Proofs.Ytkifmdfmbmbdaaa
/-- The row, under a short name, for the claim. -/
theorem detectSeldom_holds : Rows.DetectSeldomSaid := detectSeldom.proved
end Go.Proofs.Ytkifmdfmbmbdaaa
