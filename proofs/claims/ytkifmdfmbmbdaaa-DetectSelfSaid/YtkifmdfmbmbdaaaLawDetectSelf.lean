/- The row of the law DetectSelf, out of its walk. Written by rowgen.py. -/
import Derived.Test.YtkifmdfmbmbdaaaRows
import Derived.Test.YtkifmdfmbmbdaaaFinDetectSelf
import Derived.Test.YtkifmdfmbmbdaaaRow
import Derived.WalkKit
import Derived.ProofKit
import Derived.OpenShut
import Derived.ShutString
import Derived.ChangeOld
import Derived.Below
import Derived.SizedLaws
import Derived.Lib.SmallJoins
namespace Go.Proofs.Ytkifmdfmbmbdaaa.detectSelf
open Go.ChangeShapes Go.WideShapes Go.ChangeAt Go.RowKit Go.Proofs.Ytkifmdfmbmbdaaa.P Go.Proofs.YtkifmdfmbmbdaaaW.PrintWords
open Go.ChangeMaps (open_string shut_string)
set_option linter.unusedVariables false
theorem own : ownKnob Try.prog.godebug = none := by kernel_rfl
theorem laidOut : laidOutB Try.prog = true := by kernel_rfl
theorem el_40 {H : Type} {enc : TypeId × Value → H} {w : World} {base : Nat} {spare : Nat → Bool} {held : Bool} : ∀ (n : Nat) (cs : List Value) (y : DataW H × List MemPlace), DataW.trod enc Try.prog w base spare held n 40 cs = some y → cs.length = k40.sz → ∃ z : S40, k40.K w z cs ∧ (True ∧ (Lit.int .i64 z.f1).wf = true ∧ (Lit.int .u64 z.f2).wf = true ∧ True) := by
  intro n cs y h hl
  obtain ⟨m, hfl⟩ := R.struct_fields Try.underlying40 h
  obtain ⟨c0, c1, c2, c3, rfl⟩ : ∃ b0 b1 b2 b3, cs = [b0, b1, b2, b3] := by
    match cs, hl with
    | [b0, b1, b2, b3], _ => exact ⟨b0, b1, b2, b3, rfl⟩
  obtain ⟨y0, g0⟩ := hfl 0 _ c0 rfl (by kernel_rfl) rfl
  obtain ⟨a0, e_a0, _⟩ := DataW.trod_bool Try.underlying4 g0
  obtain rfl := (List.cons.inj e_a0).1
  obtain ⟨y1, g1⟩ := hfl 1 _ c1 rfl (by kernel_rfl) rfl
  obtain ⟨a1, e_a1, _, w1⟩ := DataW.trod_int Try.underlying3 g1
  obtain rfl := (List.cons.inj e_a1).1
  obtain ⟨y2, g2⟩ := hfl 2 _ c2 rfl (by kernel_rfl) rfl
  obtain ⟨a2, e_a2, _, w2⟩ := DataW.trod_int Try.underlying22 g2
  obtain rfl := (List.cons.inj e_a2).1
  obtain ⟨y3, g3⟩ := hfl 3 _ c3 rfl (by kernel_rfl) rfl
  obtain ⟨a3, e_a3, _⟩ := DataW.trod_bool Try.underlying4 g3
  obtain rfl := (List.cons.inj e_a3).1
  exact ⟨⟨a0, a1, a2, a3⟩, ⟨[_], [_, _, _], rfl, rfl, ⟨[_], [_, _], rfl, rfl, ⟨[_], [_], rfl, rfl, rfl⟩⟩⟩, trivial, w1, w2, trivial⟩
set_option maxRecDepth 100000 in
theorem lifted (os : Os) (started : os.Started) (H : Type) (enc : TypeId × Value → H) :
    ReturnsInHanded {} Try.checked os 4 .any (Rows.detectSelfSpec.pre6 enc Try.prog Try.f4 Rows.detectSelfRow.domain false) (Rows.detectSelfSpec.post enc Try.prog Try.f4 false true false false) := by
  refine returnsInHanded_of_change_sized (C := Try.checked) own started (by kernel_rfl) Try.func4
    (ChangeSpec.witness6 (enc := enc) (C := Try.checked) false ⟨#[], #[.int .i64 0, .int .i64 0, .agg #[.int .u64 0, .int .u64 0, .int .u64 0], .slice none 0 0], []⟩ 8 (by kernel_rfl) (by kernel_rfl) (by kernel_rfl) (by kernel_rfl)) ?_
  intro W base args ds gs before hval0 hW hcnd hsz0 _
  have hsz : (DataW.weightsEach Try.prog (Try.f4.params.toList ++ Rows.detectSelfSpec.plain.varTypes Try.prog) (ds ++ gs)).all (· ≤ reachBytes) = true := hsz0
  have hval : ∀ (j : Nat) t v, Try.f4.params[j]? = some t → args[j]? = some v → Value.okWide Try.prog W .any base t v := hval0
  have hW' := hW
  obtain ⟨p, q, hA0, hV, rfl, hfz, hnd⟩ := hW
  have hA : DataW.TrodAll enc Try.prog W 0 (fun _ => true) true Try.f4.params.toList args.toList ds p := hA0
  rw [Try.params4] at hA hval hsz
  obtain ⟨v0, vs0, d0, ds0, p0, q0, hargs, rfl, rfl, h0, r0⟩ := trodAll_cons hA
  obtain ⟨v1, vs1, d1, ds1, p1, q1, rfl, rfl, rfl, h1, r1⟩ := trodAll_cons r0
  obtain ⟨v2, vs2, d2, ds2, p2, q2, rfl, rfl, rfl, h2, r2⟩ := trodAll_cons r1
  obtain ⟨v3, vs3, d3, ds3, p3, q3, rfl, rfl, rfl, h3, r3⟩ := trodAll_cons r2
  obtain ⟨rfl, rfl, rfl⟩ := trodAll_nil r3
  obtain rfl : args = #[v0, v1, v2, v3] := by cases args; simp_all
  obtain ⟨rfl, rfl⟩ := trodVars_none hV
  obtain ⟨a0, rfl, rfl, rfl, w0⟩ := open_int Try.underlying3 (hval 0 3 v0 rfl rfl) h0
  obtain ⟨a1, rfl, rfl, rfl, w1⟩ := open_int Try.underlying3 (hval 1 3 v1 rfl rfl) h1
  obtain ⟨cs2, rfl, hz2⟩ := okWide_struct Try.underlying35 (hval 2 35 v2 rfl rfl)
  obtain ⟨cs2⟩ := cs2
  have hz2' : cs2.length = 3 := hz2.trans (show Try.prog.cellsOf 35 = 3 by kernel_rfl)
  obtain ⟨c2_0, c2_1, c2_2, rfl⟩ := R.list3 hz2'
  have k2 := h2
  have lt2 : ∀ x ∈ p2, x.block < W.heap.size := by obtain ⟨m, hm⟩ := k2; exact DataW.trod_lt m _ _ _ hm
  obtain ⟨fu2, hf2⟩ := h2
  obtain ⟨m2, hfl2⟩ := R.struct_fields Try.underlying35 hf2
  obtain ⟨y2_0, g2_0⟩ := hfl2 0 _ c2_0 rfl (by kernel_rfl) rfl
  obtain ⟨a2_0, e_a2_0, _, w2_0⟩ := DataW.trod_int Try.underlying22 g2_0
  obtain rfl := (List.cons.inj e_a2_0).1
  obtain ⟨y2_1, g2_1⟩ := hfl2 1 _ c2_1 rfl (by kernel_rfl) rfl
  obtain ⟨a2_1, e_a2_1, _, w2_1⟩ := DataW.trod_int Try.underlying22 g2_1
  obtain rfl := (List.cons.inj e_a2_1).1
  obtain ⟨y2_2, g2_2⟩ := hfl2 2 _ c2_2 rfl (by kernel_rfl) rfl
  obtain ⟨a2_2, e_a2_2, _, w2_2⟩ := DataW.trod_int Try.underlying22 g2_2
  obtain rfl := (List.cons.inj e_a2_2).1
  obtain ⟨A3, len3, c3, rfl⟩ := okWide_slice Try.underlying36 (hval 3 36 v3 rfl rfl)
  have k3 := h3
  have lt3 : ∀ x ∈ p3, x.block < W.heap.size := by obtain ⟨m, hm⟩ := k3; exact DataW.trod_lt m _ _ _ hm
  obtain ⟨l3, rfl, hr3, hc3, hm3, hw3⟩ := R.slice_kd k40 _ Try.underlying36 (by kernel_rfl) el_40 h3
  clear hA0 hval0 hsz0 hsz
  refine (R.DetectSelf_fin a0 a1 a2_0 a2_1 a2_2 A3 c3 l3 W w0 w1 w2_0 w2_1 w2_2 hr3 hc3 hm3 hw3).mono fun e W' ⟨he, bel⟩ => ?_
  subst he
  exact ⟨_, rfl, _, _, _, [], _, [], hW', trodAll_mk1 (shut_bool Try.underlying4 _), (trodAll_cons_mk (shut_int Try.underlying3 w0) (trodAll_cons_mk (shut_int Try.underlying3 w1) (trodAll_cons_mk (Below.trod laidOut (by kernel_rfl) (of_decide_eq_true (by kernel_rfl)) k2 bel lt2) (trodAll_cons_mk (Below.trod laidOut (by kernel_rfl) (of_decide_eq_true (by kernel_rfl)) k3 bel lt3) trodAll_mk0)))), rfl, bel.frame _, fun h => by cases h⟩
theorem over : Rows.detectSelfRow.holds Try.pinned (OpenSpec.ofChange Rows.detectSelfSpec) :=
  OpenClaim.holds_of_wide 4 Try.f4 rfl rfl rfl rfl rfl rfl rfl ⟨rfl, rfl, rfl, rfl, rfl⟩ rfl rfl rfl rfl rfl (by kernel_rfl) Try.func4 (by kernel_rfl)
    (of_decide_eq_true (by kernel_rfl)) (by unfold Func.isWrapper; first | (rw [if_pos (by decide +kernel)]; kernel_rfl) | (rw [if_neg (by decide +kernel)]; exact ⟨rfl, rfl⟩))
    (fun os started H enc _ => lifted os started H enc)
theorem proved : Rows.DetectSelfSaid := over
#print axioms proved
end Go.Proofs.Ytkifmdfmbmbdaaa.detectSelf
namespace Go.Proofs.Ytkifmdfmbmbdaaa
/-- The row, under a short name, for the claim. -/
theorem detectSelf_holds : Rows.DetectSelfSaid := detectSelf.proved
end Go.Proofs.Ytkifmdfmbmbdaaa
