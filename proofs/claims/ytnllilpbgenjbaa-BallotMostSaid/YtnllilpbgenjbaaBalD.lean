/- Ballots: what is decided (the map of choices). -/
import Derived.RangeFuncNested
import Derived.RangeFuncBound
import Derived.RangeFuncCalls
import Derived.RangeFuncLeaves
import Derived.Shelf.Abstract
import Derived.Shelf.RegionOpen
import Derived.OwnWalkIn
import Derived.TacticsInMore
import Derived.LoopNIn
import Derived.LoopIn
import Derived.WalkMore
import Derived.Laws.StructEq
import Derived.ChangeKeysEq
import Derived.Test.YtnllilpbgenjbaaWEqStruct
import Derived.Test.YtnllilpbgenjbaaBalC
import Derived.Test.YtnllilpbgenjbaaMap
namespace Go.Proofs.Ytnllilpbgenjbaa.G
open Go.RowKit Go.Shelf Go.Proofs.YtnllilpbgenjbaaW.PrintWords Go.Proofs.Ytnllilpbgenjbaa.P
attribute [local go_sem] Oper.semAt_some

/-! ### a choice as key -/
def choiceE (k : Int × ByteArray) : Value := .agg #[.int .u64 k.1, .string k.2]
theorem und_u64 : Try.prog.underlying 22 = some (.int .u64) := by kernel_rfl
theorem und_str : Try.prog.underlying 9 = some .string := by kernel_rfl
noncomputable def fieldsC : Array Field := match Try.prog.underlying 65 with | some (.struct fs) => fs | _ => #[]
theorem und_choice : Try.prog.underlying 65 = some (.struct fieldsC) := by kernel_rfl
theorem fieldsC_eq : ∃ f g : Field, fieldsC = #[f, g] ∧ (f.name == "_") = false ∧ f.type = 22 ∧ f.offset = 0 ∧ (g.name == "_") = false ∧ g.type = 9 ∧ g.offset = 1 := ⟨_, _, (by kernel_rfl : fieldsC = #[fieldsC[0]'(by decide +kernel), fieldsC[1]'(by decide +kernel)]), by kernel_rfl, by kernel_rfl, by kernel_rfl, by kernel_rfl, by kernel_rfl, by kernel_rfl⟩
theorem part_u64 (xs : Array Value) (v : Value) (i : Nat) (h : xs[i]? = some v) (w : World) : (part 22 xs i).run Try.prog w = .ok v w := run_part_plain w (by kernel_rfl) h
theorem part_str (xs : Array Value) (v : Value) (i : Nat) (h : xs[i]? = some v) (w : World) : (part 9 xs i).run Try.prog w = .ok v w := run_part_plain w (by kernel_rfl) h
theorem und_times : Try.prog.underlying 60 = some (.map 65 3) := by kernel_rfl
theorem choice_eq (a b : Int × ByteArray) (w : World) : (Op.equal 65 (choiceE a) (choiceE b)).run Try.prog w = .ok (decide (a = b)) w := by
  unfold choiceE
  have hs : Try.prog.stoodInHeld 65 = false := by kernel_rfl
  obtain ⟨f, g, hf, n1, t1, o1, n2, t2, o2⟩ := fieldsC_eq
  have := eqA_of (d := 9999) (r := a.1 == b.1 && (a.2.toList == b.2.toList)) (xs := #[.int .u64 a.1, .string a.2]) (ys := #[.int .u64 b.1, .string b.2]) (w := w) und_choice hs (by
    rw [hf]
    refine eqf_cons n1 (by rw [t1, o1]; exact part_u64 _ _ _ rfl _) (by rw [t1, o1]; exact part_u64 _ _ _ rfl _) (by rw [t1]; exact run_equalIn_int w _ _ _ _ _ _ und_u64) ?_
    refine eqf_last n2 (by rw [t2, o2]; exact part_str _ _ _ rfl _) (by rw [t2, o2]; exact part_str _ _ _ rfl _) (by rw [t2]; exact run_equalIn_string w _ _ _ _ und_str))
  unfold Op.equal Op.maxDepth
  rw [this]
  congr 1
  rw [← beq_toListBytes]
  rw [Bool.eq_iff_iff]
  simp only [Bool.and_eq_true, beq_iff_eq, Go.MapKept.bytes_beq, decide_eq_true_eq, Prod.ext_iff]
theorem choice_check (e : Bool) (k : Int × ByteArray) (w : World) : (Instr.checkKey e 10000 65 (choiceE k)).run Try.prog w = .ok () w := by
  unfold choiceE
  obtain ⟨f, g, hf, n1, t1, o1, n2, t2, o2⟩ := fieldsC_eq
  have m1 : f.name ≠ "_" := by simpa using n1
  have m2 : g.name ≠ "_" := by simpa using n2
  rw [Instr.checkKey]
  simp only [Sem.run_bind, run_underlying und_choice, Result.andThen_ok]
  rw [← Array.forIn_toList, hf]
  have p1 : ∀ w : World, (part 22 #[Value.int .u64 k.1, .string k.2] 0).run Try.prog w = .ok (.int .u64 k.1) w := part_u64 _ _ _ rfl
  have p2 : ∀ w : World, (part 9 #[Value.int .u64 k.1, .string k.2] 1).run Try.prog w = .ok (.string k.2) w := part_str _ _ _ rfl
  have c1 : ∀ w : World, (Instr.checkKey e 9999 22 (.int .u64 k.1)).run Try.prog w = .ok () w := fun w => Go.MapKept.run_checkKey und_u64 (show Go.MapKept.IsKey (.int .u64) (.int .u64 k.1) from rfl) e 9998
  have c2 : ∀ w : World, (Instr.checkKey e 9999 9 (.string k.2)).run Try.prog w = .ok () w := fun w => Go.MapKept.run_checkKey und_str (show Go.MapKept.IsKey .string (.string k.2) from trivial) e 9998
  simp only [List.forIn_cons, List.forIn_nil, Sem.run_bind, m1, m2, ne_eq, not_false_eq_true, if_true, t1, t2, o1, o2, p1, p2, c1, c2, Result.andThen_ok, Sem.run_pure]
theorem findNow_struct (fs : Array Field) (k : Value) : ∀ (es : List MapEntry) (i : Nat), es ≠ [] → Instr.findNow (.struct fs) k es i = none
  | [], _, h => absurd rfl h
  | e :: es, i, _ => by unfold Instr.findNow; simp [Instr.sameNow]
theorem choice_asks (k : Int × ByteArray) (w : World) : ∀ (es : List MapEntry) (ks : List (Int × ByteArray)) (i : Nat), es.map (·.key) = ks.map choiceE → (Instr.findAsking 65 (choiceE k) es i).run Try.prog w = .ok ((ks.findIdx? fun x => decide (x = k)).map fun j => (i + j, (es.getD j default).val)) w
  | [], [], i, _ => by simp [Instr.findAsking]
  | e :: es, x :: ks, i, h => by
    simp only [List.map_cons, List.cons.injEq] at h
    obtain ⟨h1, h2⟩ := h
    have ih := choice_asks k w es ks (i + 1) h2
    unfold Instr.findAsking
    rw [h1]
    simp only [Sem.run_bind, choice_eq, Result.andThen_ok]
    by_cases e : x = k
    · subst e; simp [List.findIdx?_cons]
    · have : ¬ k = x := fun h => e h.symm
      simp only [this, decide_false, Bool.false_eq_true, if_false, ih, List.findIdx?_cons, e]
      cases List.findIdx? (fun x => decide (x = k)) ks with
      | none => rfl
      | some j => simp; omega
  | [], _ :: _, _, h => by simp at h
  | _ :: _, [], _, h => by simp at h
def keyChoice : KeyLaw' Try.prog 65 (Int × ByteArray) where
  enc := choiceE
  check := choice_check
  find k es ks w h := by
    unfold Instr.findKey
    simp only [Sem.run_bind, run_underlying und_choice, Result.andThen_ok]
    by_cases he : es = []
    · subst he
      have : ks = [] := by simpa using h.symm
      subst this
      simp [Instr.findNow]
    · rw [findNow_struct _ _ _ _ he]
      have := choice_asks k w es ks 0 h
      simpa using this
  stays k w := by
    unfold choiceE Instr.keyThatStays
    simp [Instr.sameBits, Go.MapKept.bytes_beq]
end Go.Proofs.Ytnllilpbgenjbaa.G
