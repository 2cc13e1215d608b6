/- The law's walk: what an acceptor has promised never falls. -/
import Derived.Test.YtnllilpbgenjbaaXRises
import Derived.Test.YtnllilpbgenjbaaBalS
namespace Go.Proofs.Ytnllilpbgenjbaa.R
open Go.RowKit Go.Proofs.Ytnllilpbgenjbaa.P Go.Proofs.YtnllilpbgenjbaaW.PrintWords

/-- A right acceptor. -/
def Okv (p b : Int) (v : ByteArray) : Prop := 0 ≤ b ∧ G.rightS p b v = true
theorem Okv.le {p b : Int} {v : ByteArray} (h : Okv p b v) : b ≤ p ∧ v.size ≤ 4000 := by
  have := h.2
  unfold G.rightS at this
  simp only [Bool.and_eq_true, decide_eq_true_eq] at this
  exact ⟨this.2.1, this.1⟩
theorem promise_ok {p b : Int} {v : ByteArray} {x : Int} (h : Okv p b v) {q1 q2 : Int} {q3 : ByteArray} {q4 : Int} (e : G.promiseS p b v x = (q1, q2, q3, q4)) (h0 : q4 = 0) : Okv q1 q2 q3 ∧ p ≤ q1 ∧ b ≤ q2 ∧ q1 = x := by
  have hr := h.2
  have hl := h.le
  unfold G.promiseS at e
  by_cases h1 : G.rightS p b v = false ∨ x = 0
  · rw [if_pos h1] at e; simp only [Prod.mk.injEq] at e; omega
  · rw [if_neg h1] at e
    by_cases h2 : x ≤ p
    · rw [if_pos h2] at e; simp only [Prod.mk.injEq] at e; omega
    · rw [if_neg h2] at e
      simp only [Prod.mk.injEq] at e
      obtain ⟨rfl, rfl, rfl, _⟩ := e
      refine ⟨⟨h.1, ?_⟩, by omega, Int.le_refl _, rfl⟩
      unfold G.rightS at hr ⊢
      simp only [Bool.and_eq_true, decide_eq_true_eq, Bool.or_eq_true] at hr ⊢
      exact ⟨hr.1, by omega, hr.2.2⟩
theorem cast_ok {p b : Int} {v : ByteArray} {x : Int} {y : ByteArray} (h : Okv p b v) (hx : 0 ≤ x) {q1 q2 : Int} {q3 : ByteArray} {q4 : Int} (e : G.castS p b v x y = (q1, q2, q3, q4)) (h0 : q4 = 0) : Okv q1 q2 q3 ∧ p ≤ q1 ∧ b ≤ q2 ∧ q1 = x := by
  have hl := h.le
  unfold G.castS at e
  by_cases h1 : G.rightS p b v = false ∨ x = 0 ∨ ¬ y.size ≤ 4000
  · rw [if_pos h1] at e; simp only [Prod.mk.injEq] at e; omega
  · rw [if_neg h1] at e
    by_cases h2 : x < p
    · rw [if_pos h2] at e; simp only [Prod.mk.injEq] at e; omega
    · rw [if_neg h2] at e
      simp only [Prod.mk.injEq] at e
      obtain ⟨rfl, rfl, rfl, _⟩ := e
      have h3 : ¬ x = 0 := fun h => h1 (.inr (.inl h))
      have h4 : y.size ≤ 4000 := Classical.byContradiction fun h => h1 (.inr (.inr h))
      refine ⟨⟨hx, ?_⟩, by omega, by omega, rfl⟩
      unfold G.rightS
      simp only [Bool.and_eq_true, decide_eq_true_eq, Bool.or_eq_true]
      exact ⟨h4, Int.le_refl _, .inr (by omega)⟩
theorem rises_j3 (l : List Int) (vs : List Bool) (i : Nat) (hi : i < l.length) (h100 : i < 100) (p b : Int) (v : ByteArray) (h : Okv p b v) (q1 q2 : Int) (q3 : ByteArray) (q4 : Int) (hq : q4 = 0 → Okv q1 q2 q3 ∧ p ≤ q1 ∧ b ≤ q2 ∧ q1 = l[i])
    (ih : ∀ p b v, Okv p b v → Pure.Ev (fun k => rostrumlaw08_BallotRises.l0 k l vs true (i + 1 : Nat) p b v) true) : Pure.Ev (fun k => rostrumlaw08_BallotRises.j3 k l vs true i q4 p b v p b v q1 q2 q3) true := by
  have hw : wrap64 ((i : Int) + 1) = ((i + 1 : Nat) : Int) := by rw [IntWalk.wrap64_in _ (by omega)]; rfl
  have hrd : rd l i = l[i] := by simp [rd, List.getD_eq_getElem?_getD, hi]
  have hl := h.le
  by_cases h0 : q4 = 0
  · obtain ⟨ho, h1, h2, h3⟩ := hq h0
    have hl' := ho.le
    refine (ih q1 q2 q3 ho).step fun k => ?_
    show rostrumlaw08_BallotRises.j3 (k + 1) l vs true i q4 p b v p b v q1 q2 q3 = _
    rw [rostrumlaw08_BallotRises.j3]
    rw [if_pos h0, if_neg (by omega), if_neg (by omega), if_neg (by omega), show G.ballot_Right.f q1 q2 q3 = some true from congrArg some ho.2]
    simp only [Option.bind_some, if_true]
    rw [if_pos (by omega), if_pos (by omega), hrd, if_pos h3, hw]
  · refine (ih p b v h).step fun k => ?_
    show rostrumlaw08_BallotRises.j3 (k + 1) l vs true i q4 p b v p b v q1 q2 q3 = _
    rw [rostrumlaw08_BallotRises.j3]
    rw [if_neg h0, if_neg (by omega), if_neg (by omega), if_neg (by omega), show G.ballot_Right.f p b v = some true from congrArg some h.2]
    simp only [Option.bind_some, if_true]
    rw [hw]
theorem rises_loop (l : List Int) (vs : List Bool) (hl : ∀ x ∈ l, 0 ≤ x) : ∀ (d i : Nat) (p b : Int) (v : ByteArray), i ≤ l.length → i ≤ 100 → 100 - i = d → Okv p b v → Pure.Ev (fun k => rostrumlaw08_BallotRises.l0 k l vs true i p b v) true
  | d, i, p, b, v, hi, h100, hd, h => by
    by_cases hc : i < l.length ∧ i < 100
    · have ih := fun p b v hok => rises_loop l vs hl (d - 1) (i + 1) p b v (by omega) (by omega) (by omega) hok
      have hrd : rd l i = l[i] := by simp [rd, List.getD_eq_getElem?_getD, hc.1]
      have hx := hl _ (List.getElem_mem hc.1)
      obtain ⟨q1, q2, q3, q4, hq⟩ : ∃ q1 q2 q3 q4, G.promiseS p b v l[i] = (q1, q2, q3, q4) := ⟨_, _, _, _, rfl⟩
      obtain ⟨c1, c2, c3, c4, hcs⟩ : ∃ q1 q2 q3 q4, G.castS p b v l[i] ⟨#[118]⟩ = (q1, q2, q3, q4) := ⟨_, _, _, _, rfl⟩
      have k3 := rises_j3 l vs i hc.1 hc.2 p b v h q1 q2 q3 q4 (promise_ok h hq) ih
      have k3' := rises_j3 l vs i hc.1 hc.2 p b v h c1 c2 c3 c4 (cast_ok h hx hcs) ih
      have k2 : ∀ x42 : Bool, Pure.Ev (fun k => rostrumlaw08_BallotRises.j2 k l vs true i q4 x42 p b v p b v q1 q2 q3) true := by
        intro x42
        cases x42 with
        | true =>
          refine k3'.step fun k => ?_
          show rostrumlaw08_BallotRises.j2 (k + 1) l vs true i q4 true p b v p b v q1 q2 q3 = _
          rw [rostrumlaw08_BallotRises.j2]
          rw [if_pos rfl, if_pos (by omega), if_pos (by omega), hrd, show G.ballot_Cast.f p b v l[i] ⟨#[118]⟩ = some (c1, c2, c3, c4) from congrArg some hcs]
          rfl
        | false =>
          refine k3.step fun k => ?_
          show rostrumlaw08_BallotRises.j2 (k + 1) l vs true i q4 false p b v p b v q1 q2 q3 = _
          rw [rostrumlaw08_BallotRises.j2]
          rw [if_neg (by decide)]
      have k1 : Pure.Ev (fun k => rostrumlaw08_BallotRises.j1 k l vs true i true p b v) true := by
        by_cases hv : (i : Int) < (vs.length : Int)
        · refine (k2 (rdOf false vs i)).step fun k => ?_
          show rostrumlaw08_BallotRises.j1 (k + 1) l vs true i true p b v = _
          rw [rostrumlaw08_BallotRises.j1]
          rw [if_pos rfl, if_pos (by omega), if_pos (by omega), hrd, show G.ballot_Promise.f p b v l[i] = some (q1, q2, q3, q4) from congrArg some hq]
          simp only [Option.bind_some]
          rw [if_pos hv]
        · refine (k2 false).step fun k => ?_
          show rostrumlaw08_BallotRises.j1 (k + 1) l vs true i true p b v = _
          rw [rostrumlaw08_BallotRises.j1]
          rw [if_pos rfl, if_pos (by omega), if_pos (by omega), hrd, show G.ballot_Promise.f p b v l[i] = some (q1, q2, q3, q4) from congrArg some hq]
          simp only [Option.bind_some]
          rw [if_neg hv]
      refine k1.step fun k => ?_
      show rostrumlaw08_BallotRises.l0 (k + 1) l vs true i p b v = _
      rw [rostrumlaw08_BallotRises.l0]
      rw [if_pos (by omega), decide_eq_true (by omega)]
    · have k1 : Pure.Ev (fun k => rostrumlaw08_BallotRises.j1 k l vs true i false p b v) true := by
        refine Pure.Ev.now fun k => ?_
        show rostrumlaw08_BallotRises.j1 (k + 1) l vs true i false p b v = _
        rw [rostrumlaw08_BallotRises.j1]
        rw [if_neg (by decide)]
      refine k1.step fun k => ?_
      show rostrumlaw08_BallotRises.l0 (k + 1) l vs true i p b v = _
      rw [rostrumlaw08_BallotRises.l0]
      by_cases h1 : (i : Int) < (l.length : Int)
      · rw [if_pos h1, decide_eq_false (by omega)]
      · rw [if_neg h1]
theorem BallotRises_fin (A0 : Option Addr) (c0 : Nat) (l0 : List Int) (A1 : Option Addr) (c1 : Nat) (l1 : List Bool) (w : World) (hr0 : Kd.C (Kd.int .u64) w A0 l0.length l0) (hc0 : l0.length ≤ c0) (_hm0 : l0.length ≤ maxLen) (hw0 : ∀ z ∈ l0, (Lit.int .u64 z).wf = true)
    (hr1 : Kd.C Kd.bool w A1 l1.length l1) (hc1 : l1.length ≤ c1) (_hm1 : l1.length ≤ maxLen) (_hw1 : ∀ z ∈ l1, True) :
    Calls Try.prog 4 #[.slice A0 l0.length c0, .slice A1 l1.length c1] w fun e w' => e = .returned (.bool true) ∧ Below w.heap.size w w' := by
  obtain ⟨K, h⟩ := rises_loop l0 l1 (fun x hx => (Pure.wf_u64 (hw0 x hx)).1) 100 0 0 0 ⟨#[]⟩ (by omega) (by omega) (by omega) ⟨Int.le_refl 0, by decide⟩
  have h := h K (Nat.le_refl _)
  have hf : rostrumlaw08_BallotRises.f K l0 l1 = some true := by
    unfold rostrumlaw08_BallotRises.f
    rw [Pure.shown_true]
    exact h
  exact rostrumlaw08_BallotRises.calls_true K A0 c0 l0 A1 c1 l1 true w hr0 hc0 hr1 hc1 hf rfl
end Go.Proofs.Ytnllilpbgenjbaa.R
