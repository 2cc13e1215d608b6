/- The row of the law BallotVotes, out of its walk. Written by rowgen.py. -/
import Derived.Test.YtnllilpbgenjbaaRows
import Derived.Test.YtnllilpbgenjbaaFinBallotVotes
import Derived.Test.YtnllilpbgenjbaaRow
import Derived.WalkKit
import Derived.ProofKit
import Derived.OpenShut
import Derived.ShutString
import Derived.ChangeOld
import Derived.Below
import Derived.SizedLaws
import Derived.Lib.SmallJoins
namespace Go.Proofs.Ytnllilpbgenjbaa.ballotVotes
open Go.ChangeShapes Go.WideShapes Go.ChangeAt Go.RowKit Go.Proofs.Ytnllilpbgenjbaa.P Go.Proofs.YtnllilpbgenjbaaW.PrintWords
open Go.ChangeMaps (open_string shut_string)
set_option linter.unusedVariables false
theorem own : ownKnob Try.prog.godebug = none := by kernel_rfl
theorem laidOut : laidOutB Try.prog = true := by kernel_rfl
set_option maxRecDepth 100000 in
theorem lifted (os : Os) (started : os.Started) (H : Type) (enc : TypeId × Value → H) :
    ReturnsInHanded {} Try.checked os 3 .any (Rows.ballotVotesSpec.pre6 enc Try.prog Try.f3 Rows.ballotVotesRow.domain false) (Rows.ballotVotesSpec.post enc Try.prog Try.f3 false true false false) := by
  refine returnsInHanded_of_change_sized (C := Try.checked) own started (by kernel_rfl) Try.func3
    (ChangeSpec.witness6 (enc := enc) (C := Try.checked) false ⟨#[], #[.agg #[.int .u64 0, .int .u64 0, .string ByteArray.empty], .int .u64 0, .string ByteArray.empty], []⟩ 8 (by kernel_rfl) (by kernel_rfl) (by kernel_rfl) (by kernel_rfl)) ?_
  intro W base args ds gs before hval0 hW hcnd hsz0 _
  have hsz : (DataW.weightsEach Try.prog (Try.f3.params.toList ++ Rows.ballotVotesSpec.plain.varTypes Try.prog) (ds ++ gs)).all (· ≤ reachBytes) = true := hsz0
  have hval : ∀ (j : Nat) t v, Try.f3.params[j]? = some t → args[j]? = some v → Value.okWide Try.prog W .any base t v := hval0
  have hW' := hW
  obtain ⟨p, q, hA0, hV, rfl, hfz, hnd⟩ := hW
  have hA : DataW.TrodAll enc Try.prog W 0 (fun _ => true) true Try.f3.params.toList args.toList ds p := hA0
  rw [Try.params3] at hA hval hsz
  obtain ⟨v0, vs0, d0, ds0, p0, q0, hargs, rfl, rfl, h0, r0⟩ := trodAll_cons hA
  obtain ⟨v1, vs1, d1, ds1, p1, q1, rfl, rfl, rfl, h1, r1⟩ := trodAll_cons r0
  obtain ⟨v2, vs2, d2, ds2, p2, q2, rfl, rfl, rfl, h2, r2⟩ := trodAll_cons r1
  obtain ⟨rfl, rfl, rfl⟩ := trodAll_nil r2
  obtain rfl : args = #[v0, v1, v2] := by cases args; simp_all
  obtain ⟨rfl, rfl⟩ := trodVars_none hV
  obtain ⟨cs0, rfl, hz0⟩ := okWide_struct Try.underlying24 (hval 0 24 v0 rfl rfl)
  obtain ⟨cs0⟩ := cs0
  have hz0' : cs0.length = 3 := hz0.trans (show Try.prog.cellsOf 24 = 3 by kernel_rfl)
  obtain ⟨c0_0, c0_1, c0_2, rfl⟩ := R.list3 hz0'
  have k0 := h0
  have lt0 : ∀ x ∈ p0, x.block < W.heap.size := by obtain ⟨m, hm⟩ := k0; exact DataW.trod_lt m _ _ _ hm
  obtain ⟨fu0, hf0⟩ := h0
  obtain ⟨m0, hfl0⟩ := R.struct_fields Try.underlying24 hf0
  obtain ⟨y0_0, g0_0⟩ := hfl0 0 _ c0_0 rfl (by kernel_rfl) rfl
  obtain ⟨a0_0, e_a0_0, _, w0_0⟩ := DataW.trod_int Try.underlying22 g0_0
  obtain rfl := (List.cons.inj e_a0_0).1
  obtain ⟨y0_1, g0_1⟩ := hfl0 1 _ c0_1 rfl (by kernel_rfl) rfl
  obtain ⟨a0_1, e_a0_1, _, w0_1⟩ := DataW.trod_int Try.underlying22 g0_1
  obtain rfl := (List.cons.inj e_a0_1).1
  obtain ⟨y0_2, g0_2⟩ := hfl0 2 _ c0_2 rfl (by kernel_rfl) rfl
  obtain ⟨a0_2, e_a0_2, _, w0_2⟩ := DataW.trod_string Try.underlying9 g0_2
  obtain rfl := (List.cons.inj e_a0_2).1
  obtain ⟨a1, rfl, rfl, rfl, w1⟩ := open_int Try.underlying22 (hval 1 22 v1 rfl rfl) h1
  obtain ⟨a2, rfl, rfl, rfl, y2⟩ := open_string Try.underlying9 (hval 2 9 v2 rfl rfl) h2
  have w2 : a2.size ≤ 140737488351232 := by
    have z := sized_string hsz (j := 2) (t := 9) rfl rfl
    rw [Array.length_toList] at z
    exact z
  clear hA0 hval0 hsz0 hsz
  refine (R.BallotVotes_fin a0_0 a0_1 a0_2 a1 a2 W w0_0 w0_1 w0_2 w1 w2).mono fun e W' ⟨he, bel⟩ => ?_
  subst he
  exact ⟨_, rfl, _, _, _, [], _, [], hW', trodAll_mk1 (shut_bool Try.underlying4 _), (trodAll_cons_mk (Below.trod laidOut (by kernel_rfl) (of_decide_eq_true (by kernel_rfl)) k0 bel lt0) (trodAll_cons_mk (shut_int Try.underlying22 w1) (trodAll_cons_mk (shut_string Try.underlying9 y2) trodAll_mk0))), rfl, bel.frame _, fun h => by cases h⟩
theorem over : Rows.ballotVotesRow.holds Try.pinned (OpenSpec.ofChange Rows.ballotVotesSpec) :=
  OpenClaim.holds_of_wide 3 Try.f3 rfl rfl rfl rfl rfl rfl rfl ⟨rfl, rfl, rfl, rfl, rfl⟩ rfl rfl rfl rfl rfl (by kernel_rfl) Try.func3 (by kernel_rfl)
    (of_decide_eq_true (by kernel_rfl)) (by unfold Func.isWrapper; first | (rw [if_pos (by decide +kernel)]; kernel_rfl) | (rw [if_neg (by decide +kernel)]; exact ⟨rfl, rfl⟩))
    (fun os started H enc _ => lifted os started H enc)
theorem proved : Rows.BallotVotesSaid := over
#print axioms proved
end Go.Proofs.Ytnllilpbgenjbaa.ballotVotes
namespace Go.Proofs.Ytnllilpbgenjbaa
/-- The row, under a short name, for the claim. -/
theorem ballotVotes_holds : Rows.BallotVotesSaid := ballotVotes.proved
end Go.Proofs.Ytnllilpbgenjbaa
