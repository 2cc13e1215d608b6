/- Ballots: the document's answers are the program's. -/
import Derived.Test.YtnllilpbgenjbaaPx6
import Derived.Test.YtnllilpbgenjbaaPx5
import Derived.Test.YtnllilpbgenjbaaBalS
namespace Go.Proofs.Ytnllilpbgenjbaa.Pure
open Go.RowKit Go.Proofs.Ytnllilpbgenjbaa.P Go.Proofs.YtnllilpbgenjbaaW.PrintWords Go.Proofs.YtnllilpbgenjbaaW.PrintLast Go.Proofs.YtnllilpbgenjbaaW.PrintMore

/-! ### Proposal -/
def refB (a : Int × ByteArray) (x : S24) : Int × ByteArray := if x.f1 > a.1 then (x.f1, x.f2) else a
theorem refB_best : ∀ (l : List S24) (a : S24), 0 ≤ a.f1 → ((G.castL l).foldl G.better a).f2 = (l.foldl refB (a.f1, a.f2)).2
  | [], a, _ => rfl
  | x :: l, a, h => by
    by_cases h0 : x.f1 = 0
    · have h1 : ¬ x.f1 > a.f1 := by omega
      have hc : G.castL (x :: l) = G.castL l := by unfold G.castL; rw [List.filter_cons_of_neg (by simp [h0])]
      rw [hc, List.foldl_cons, show refB (a.f1, a.f2) x = (a.f1, a.f2) by unfold refB; rw [if_neg h1]]
      exact refB_best l a h
    · have hc : G.castL (x :: l) = x :: G.castL l := by unfold G.castL; rw [List.filter_cons_of_pos (by simp [h0])]
      rw [hc, List.foldl_cons, List.foldl_cons]
      by_cases h1 : a.f1 < x.f1
      · rw [show G.better a x = x by unfold G.better; rw [if_pos h1], show refB (a.f1, a.f2) x = (x.f1, x.f2) by unfold refB; rw [if_pos h1]]
        exact refB_best l x (by omega)
      · rw [show G.better a x = a by unfold G.better; rw [if_neg h1], show refB (a.f1, a.f2) x = (a.f1, a.f2) by unfold refB; rw [if_neg h1]]
        exact refB_best l a h
theorem refP_loop (l : List S24) (hl : l.length ≤ 20) (hb : ∀ x ∈ l, 0 ≤ x.f1) : ∀ (d i : Nat) (a : Int × ByteArray), i ≤ l.length → l.length - i = d →
    Ev (fun k => rostrumref08_Proposal.l0 k l a.1 a.2 i) (if (l.drop i).all G.rightV then (((l.drop i).foldl refB a).2, 0) else (⟨#[]⟩, 2))
  | d, i, a, hi, hd => by
    by_cases h : i < l.length
    · have hdrop : l.drop i = l[i] :: l.drop (i + 1) := List.drop_eq_getElem_cons h
      have hr : rostrumref08_Right.f l[i].f0 l[i].f1 l[i].f2 = some (G.rightV l[i]) := ref_right l[i].f0 l[i].f1 l[i].f2 (hb _ (List.getElem_mem h))
      by_cases hg : G.rightV l[i] = true
      · have ih := refP_loop l hl hb (d - 1) (i + 1) (refB a l[i]) (by omega) (by omega)
        have he : (if (l.drop i).all G.rightV then (((l.drop i).foldl refB a).2, (0 : Int)) else ((⟨#[]⟩ : ByteArray), 2)) = (if (l.drop (i + 1)).all G.rightV then (((l.drop (i + 1)).foldl refB (refB a l[i])).2, 0) else (⟨#[]⟩, 2)) := by
          rw [hdrop, List.all_cons, hg, Bool.true_and, List.foldl_cons]
        rw [he]
        refine ih.step fun k => ?_
        show rostrumref08_Proposal.l0 (k + 1) l a.1 a.2 i = _
        conv => lhs; unfold rostrumref08_Proposal.l0
        rw [if_pos (by omega), if_pos (by omega), rd_nat l i h, hr]
        simp only [Option.bind_some]
        rw [if_pos hg, show wrap64 ((i : Int) + 1) = ((i + 1 : Nat) : Int) by rw [IntWalk.wrap64_in _ (by omega)]; rfl]
        unfold refB
        by_cases hx : l[i].f1 > a.1
        · rw [if_pos hx, if_pos hx]
        · rw [if_neg hx, if_neg hx]
      · have he : (if (l.drop i).all G.rightV then (((l.drop i).foldl refB a).2, (0 : Int)) else ((⟨#[]⟩ : ByteArray), 2)) = (⟨#[]⟩, 2) := by
          rw [hdrop, List.all_cons]
          simp [hg]
        rw [he]
        refine Ev.now fun k => ?_
        show rostrumref08_Proposal.l0 (k + 1) l a.1 a.2 i = _
        conv => lhs; unfold rostrumref08_Proposal.l0
        rw [if_pos (by omega), if_pos (by omega), rd_nat l i h, hr]
        simp only [Option.bind_some]
        rw [if_neg hg]
    · have hdrop : l.drop i = [] := List.drop_of_length_le (by omega)
      rw [hdrop]
      refine Ev.now fun k => ?_
      show rostrumref08_Proposal.l0 (k + 1) l a.1 a.2 i = _
      conv => lhs; unfold rostrumref08_Proposal.l0
      rw [if_neg (by omega)]
      rfl
theorem refP_ev (n : Int) (l : List S24) (own : ByteArray) (hl : l.length ≤ 20) (hb : ∀ x ∈ l, 0 ≤ x.f1) : Ev (fun k => rostrumref08_Proposal.f k n l own) (G.proposalS n l own) := by
  have hw : wrap64 (2 * (l.length : Int)) = 2 * l.length := IntWalk.wrap64_in _ (by omega)
  unfold G.proposalS
  by_cases hg : n < 1 ∨ 16 < n ∨ n < l.length ∨ (l.length : Int) ≤ n / 2
  · rw [if_pos hg]
    refine (Ev.now (f := fun k => rostrumref08_Proposal.j0 k l own true) fun k => ?_).same fun k => ?_
    · rfl
    · show rostrumref08_Proposal.f k n l own = _
      unfold rostrumref08_Proposal.f
      rw [hw]
      by_cases a1 : n < 1
      · rw [if_pos a1]
      · rw [if_neg a1]
        by_cases a2 : n > 16
        · rw [if_pos a2]
        · rw [if_neg a2]
          by_cases a3 : (l.length : Int) > n
          · rw [if_pos a3]
          · rw [if_neg a3, decide_eq_true (by omega)]
  · rw [if_neg hg]
    refine Ev.same (g := fun k => rostrumref08_Proposal.j0 k l own false) ?_ fun k => ?_
    · by_cases ho : own.size ≤ 4000
      · have he : (if l.all G.rightV = false ∨ ¬ own.size ≤ 4000 then ((⟨#[]⟩ : ByteArray), (2 : Int)) else ((G.bestV own (G.castL l)).f2, 0)) = (if (l.drop 0).all G.rightV then (((l.drop 0).foldl refB (0, own)).2, 0) else (⟨#[]⟩, 2)) := by
          rw [List.drop_zero]
          by_cases ha : l.all G.rightV = true
          · rw [if_neg (by rw [ha]; simp [ho]), if_pos ha]
            unfold G.bestV
            rw [refB_best l ⟨0, 0, own⟩ (Int.le_refl 0)]
          · rw [if_pos (.inl (by simpa using ha)), if_neg ha]
        rw [he]
        refine (refP_loop l hl hb l.length 0 (0, own) (by omega) (by omega)).step fun k => ?_
        show rostrumref08_Proposal.j0 (k + 1) l own false = _
        rw [show rostrumref08_Proposal.j0 (k + 1) l own false = if (own.size : Int) > 4000 then some (⟨#[]⟩, 2) else rostrumref08_Proposal.l0 k l 0 own 0 from rfl, if_neg (by omega)]
        rfl
      · rw [if_pos (.inr ho)]
        refine Ev.now fun k => ?_
        show rostrumref08_Proposal.j0 (k + 1) l own false = _
        rw [show rostrumref08_Proposal.j0 (k + 1) l own false = if (own.size : Int) > 4000 then some (⟨#[]⟩, 2) else rostrumref08_Proposal.l0 k l 0 own 0 from rfl, if_pos (by omega)]
    · show rostrumref08_Proposal.f k n l own = _
      unfold rostrumref08_Proposal.f
      rw [hw, if_neg (by omega), if_neg (by omega), if_neg (by omega), decide_eq_false (by omega)]

/-! ### Decided -/
def sameK (x y : S24) : Bool := decide (y.f1 > 0 ∧ y.f1 = x.f1 ∧ y.f2 = x.f2)
def cntK (x : S24) (l : List S24) : Nat := (l.filter (sameK x)).length
theorem cntK_cons (x y : S24) (l : List S24) : cntK x (y :: l) = (if sameK x y then 1 else 0) + cntK x l := by
  unfold cntK
  by_cases h : sameK x y = true
  · rw [List.filter_cons_of_pos h, List.length_cons, if_pos h]; omega
  · rw [List.filter_cons_of_neg h, if_neg h]; omega
theorem cntK_count (l : List S24) (x : S24) (hb : ∀ y ∈ l, 0 ≤ y.f1) : cntK x l = G.countC (G.keyV x) (G.castL l) := by
  unfold cntK G.countC G.castL
  rw [List.filter_filter]
  congr 1
  apply List.filter_congr
  intro y hy
  have := hb y hy
  unfold sameK G.keyV
  rw [Bool.eq_iff_iff]
  simp only [decide_eq_true_eq, Bool.and_eq_true, Prod.mk.injEq]
  constructor
  · rintro ⟨h1, h2, h3⟩; exact ⟨⟨h2, h3⟩, by omega⟩
  · rintro ⟨⟨h2, h3⟩, h1⟩; exact ⟨by omega, h2, h3⟩
theorem bytes_toList (a b : ByteArray) : a.toList = b.toList ↔ a = b := by
  constructor
  · intro h
    rw [ByteArray.toList_eq, ByteArray.toList_eq] at h
    exact ByteArray.ext (Array.toList_inj.1 h)
  · rintro rfl; rfl
def decR (l : List S24) (i : Nat) : ByteArray × Bool × Int := match (l.drop i).find? (fun x => decide (l.length < 2 * cntK x l)) with | some x => (x.f2, true, 0) | none => (⟨#[]⟩, false, 0)
theorem refD_l2 (l : List S24) (hl : l.length ≤ 20) (i : Nat) (hi : i < l.length) (r : ByteArray × Bool × Int) (hr : Ev (fun k => rostrumref08_Decided.l1 k l (i + 1 : Nat)) r) :
    ∀ (d j c : Nat), j ≤ l.length → c ≤ 20 → l.length - j = d → c + cntK l[i] (l.drop j) = cntK l[i] l → Ev (fun k => rostrumref08_Decided.l2 k l i c j) (if l.length < 2 * cntK l[i] l then (l[i].f2, true, 0) else r)
  | d, j, c, hj, hc, hd, hcc => by
    have hle : cntK l[i] l ≤ 20 := Nat.le_trans (List.length_filter_le _ _) hl
    by_cases h : j < l.length
    · have hdrop : l.drop j = l[j] :: l.drop (j + 1) := List.drop_eq_getElem_cons h
      rw [hdrop, cntK_cons] at hcc
      by_cases hs : sameK l[i] l[j] = true
      · rw [if_pos hs] at hcc
        have hs' := hs
        unfold sameK at hs'
        obtain ⟨s1, s2, s3⟩ := of_decide_eq_true hs'
        refine (refD_l2 l hl i hi r hr (d - 1) (j + 1) (c + 1) (by omega) (by omega) (by omega) (by omega)).step fun k => ?_
        show rostrumref08_Decided.l2 (k + 1) l i c j = _
        conv => lhs; unfold rostrumref08_Decided.l2
        rw [if_pos (by omega), if_pos (by omega), rd_nat l j h, rd_nat l i hi, if_pos s1, if_pos (by omega), if_pos (by omega), if_pos s2, if_pos (by rw [s3]),
          show wrap64 ((j : Int) + 1) = ((j + 1 : Nat) : Int) by rw [IntWalk.wrap64_in _ (by omega)]; rfl, show wrap64 ((c : Int) + 1) = ((c + 1 : Nat) : Int) by rw [IntWalk.wrap64_in _ (by omega)]; rfl]
      · rw [if_neg hs] at hcc
        refine (refD_l2 l hl i hi r hr (d - 1) (j + 1) c (by omega) (by omega) (by omega) (by omega)).step fun k => ?_
        show rostrumref08_Decided.l2 (k + 1) l i c j = _
        conv => lhs; unfold rostrumref08_Decided.l2
        rw [if_pos (by omega), if_pos (by omega), rd_nat l j h, rd_nat l i hi, show wrap64 ((j : Int) + 1) = ((j + 1 : Nat) : Int) by rw [IntWalk.wrap64_in _ (by omega)]; rfl]
        by_cases s1 : l[j].f1 > 0
        · rw [if_pos s1, if_pos (by omega), if_pos (by omega)]
          by_cases s2 : l[j].f1 = l[i].f1
          · rw [if_pos s2, if_neg]
            intro s3
            exact hs (by unfold sameK; exact decide_eq_true ⟨s1, s2, (bytes_toList _ _).1 s3⟩)
          · rw [if_neg s2]
        · rw [if_neg s1]
    · have hdrop : l.drop j = [] := List.drop_of_length_le (by omega)
      rw [hdrop] at hcc
      have hcc' : c = cntK l[i] l := by simpa [cntK] using hcc
      by_cases hm : l.length < 2 * cntK l[i] l
      · rw [if_pos hm]
        refine Ev.now fun k => ?_
        show rostrumref08_Decided.l2 (k + 1) l i c j = _
        conv => lhs; unfold rostrumref08_Decided.l2
        rw [if_neg (by omega), show wrap64 (2 * (c : Int)) = 2 * c by exact IntWalk.wrap64_in _ (by omega), if_pos (by omega), if_pos (by omega), if_pos (by omega), rd_nat l i hi]
      · rw [if_neg hm]
        refine hr.step fun k => ?_
        show rostrumref08_Decided.l2 (k + 1) l i c j = _
        conv => lhs; unfold rostrumref08_Decided.l2
        rw [if_neg (by omega), show wrap64 (2 * (c : Int)) = 2 * c by exact IntWalk.wrap64_in _ (by omega), if_neg (by omega), show wrap64 ((i : Int) + 1) = ((i + 1 : Nat) : Int) by rw [IntWalk.wrap64_in _ (by omega)]; rfl]
theorem refD_l1 (l : List S24) (hl : l.length ≤ 20) : ∀ (d i : Nat), i ≤ l.length → l.length - i = d → Ev (fun k => rostrumref08_Decided.l1 k l i) (decR l i)
  | d, i, hi, hd => by
    by_cases h : i < l.length
    · have ih := refD_l1 l hl (d - 1) (i + 1) (by omega) (by omega)
      have hdrop : l.drop i = l[i] :: l.drop (i + 1) := List.drop_eq_getElem_cons h
      have he : decR l i = (if l.length < 2 * cntK l[i] l then (l[i].f2, true, 0) else decR l (i + 1)) := by
        unfold decR
        rw [hdrop, List.find?_cons]
        by_cases hm : l.length < 2 * cntK l[i] l
        · rw [decide_eq_true hm, if_pos hm]
        · rw [decide_eq_false hm, if_neg hm]
      rw [he]
      refine (refD_l2 l hl i h _ ih l.length 0 0 (by omega) (by omega) (by omega) (by simp)).step fun k => ?_
      show rostrumref08_Decided.l1 (k + 1) l i = _
      conv => lhs; unfold rostrumref08_Decided.l1
      rw [if_pos (by omega)]
      rfl
    · have hdrop : l.drop i = [] := List.drop_of_length_le (by omega)
      have he : decR l i = (⟨#[]⟩, false, 0) := by unfold decR; rw [hdrop]; rfl
      rw [he]
      refine Ev.now fun k => ?_
      show rostrumref08_Decided.l1 (k + 1) l i = _
      conv => lhs; unfold rostrumref08_Decided.l1
      rw [if_neg (by omega)]
theorem refD_l0 (l : List S24) (hl : l.length ≤ 20) (hb : ∀ x ∈ l, 0 ≤ x.f1) : ∀ (d i : Nat), i ≤ l.length → l.length - i = d → Ev (fun k => rostrumref08_Decided.l0 k l i) (if (l.drop i).all G.rightV then decR l 0 else (⟨#[]⟩, false, 2))
  | d, i, hi, hd => by
    by_cases h : i < l.length
    · have hdrop : l.drop i = l[i] :: l.drop (i + 1) := List.drop_eq_getElem_cons h
      have hr : rostrumref08_Right.f l[i].f0 l[i].f1 l[i].f2 = some (G.rightV l[i]) := ref_right l[i].f0 l[i].f1 l[i].f2 (hb _ (List.getElem_mem h))
      by_cases hg : G.rightV l[i] = true
      · have ih := refD_l0 l hl hb (d - 1) (i + 1) (by omega) (by omega)
        rw [hdrop, List.all_cons, hg, Bool.true_and]
        refine ih.step fun k => ?_
        show rostrumref08_Decided.l0 (k + 1) l i = _
        conv => lhs; unfold rostrumref08_Decided.l0
        rw [if_pos (by omega), if_pos (by omega), rd_nat l i h, hr]
        simp only [Option.bind_some]
        rw [if_pos hg, show wrap64 ((i : Int) + 1) = ((i + 1 : Nat) : Int) by rw [IntWalk.wrap64_in _ (by omega)]; rfl]
      · rw [hdrop, List.all_cons, show G.rightV l[i] = false by simpa using hg, Bool.false_and, if_neg (by decide)]
        refine Ev.now fun k => ?_
        show rostrumref08_Decided.l0 (k + 1) l i = _
        conv => lhs; unfold rostrumref08_Decided.l0
        rw [if_pos (by omega), if_pos (by omega), rd_nat l i h, hr]
        simp only [Option.bind_some]
        rw [if_neg hg]
    · have hdrop : l.drop i = [] := List.drop_of_length_le (by omega)
      rw [hdrop, List.all_nil, if_pos rfl]
      refine (refD_l1 l hl l.length 0 (by omega) (by omega)).step fun k => ?_
      show rostrumref08_Decided.l0 (k + 1) l i = _
      conv => lhs; unfold rostrumref08_Decided.l0
      rw [if_neg (by omega)]
      rfl
theorem find_congr {α : Type} : ∀ (l : List α) (p q : α → Bool), (∀ x ∈ l, p x = q x) → l.find? p = l.find? q
  | [], _, _, _ => rfl
  | x :: l, p, q, h => by
    rw [List.find?_cons, List.find?_cons, h x (by simp), find_congr l p q fun y hy => h y (by simp [hy])]
theorem decR_is (l : List S24) (hb : ∀ x ∈ l, 0 ≤ x.f1) : decR l 0 = match G.decidedV l with | some x => (x.f2, true, 0) | none => (⟨#[]⟩, false, 0) := by
  unfold decR G.decidedV
  rw [List.drop_zero]
  have : (G.castL l).find? (fun x => decide (l.length / 2 < G.countC (G.keyV x) (G.castL l))) = l.find? (fun x => decide (l.length < 2 * cntK x l)) := by
    unfold G.castL
    rw [List.find?_filter]
    refine find_congr l _ _ fun x hx => ?_
    rw [cntK_count l x hb]
    have hc := cntK_count l x hb
    by_cases h0 : x.f1 = 0
    · have hz : cntK x l = 0 := by
        unfold cntK
        rw [List.length_eq_zero_iff, List.filter_eq_nil_iff]
        intro y _
        unfold sameK
        simp only [decide_eq_true_eq]
        omega
      rw [← hc, hz]
      simp [h0]
    · have e : (decide (l.length / 2 < G.countC (G.keyV x) (l.filter fun x => decide (x.f1 ≠ 0)))) = decide (l.length < 2 * G.countC (G.keyV x) (G.castL l)) := by
        show decide (l.length / 2 < G.countC (G.keyV x) (G.castL l)) = _
        congr 1
        exact propext (by omega)
      rw [e]
      simp [h0]
  rw [this]
theorem refD_ev (l : List S24) (hl : l.length ≤ 20) (hb : ∀ x ∈ l, 0 ≤ x.f1) : Ev (fun k => rostrumref08_Decided.f k l) (G.decidedS l) := by
  unfold G.decidedS
  by_cases hg : l.length < 1 ∨ 16 < l.length
  · rw [if_pos hg]
    refine (Ev.now (f := fun k => rostrumref08_Decided.j0 k l true) fun k => ?_).same fun k => ?_
    · rfl
    · show rostrumref08_Decided.f k l = _
      unfold rostrumref08_Decided.f
      by_cases a1 : (l.length : Int) < 1
      · rw [if_pos a1]
      · rw [if_neg a1, decide_eq_true (by omega)]
  · rw [if_neg hg]
    refine Ev.same (g := fun k => rostrumref08_Decided.j0 k l false) ?_ fun k => ?_
    · have key : Ev (fun k => rostrumref08_Decided.j0 k l false) (if (l.drop 0).all G.rightV then decR l 0 else (⟨#[]⟩, false, 2)) := by
        refine (refD_l0 l hl hb l.length 0 (by omega) (by omega)).step fun k => ?_
        rfl
      rw [List.drop_zero] at key
      by_cases ha : l.all G.rightV = true
      · have hk := decR_is l hb
        rw [if_neg (by rw [ha]; decide)]
        rw [if_pos ha] at key
        cases hd : G.decidedV l with
        | none => rw [hd] at hk; rw [hk] at key; exact key
        | some x => rw [hd] at hk; rw [hk] at key; exact key
      · rw [if_pos (by simpa using ha)]
        rwa [if_neg ha] at key
    · show rostrumref08_Decided.f k l = _
      unfold rostrumref08_Decided.f
      rw [if_neg (by omega), decide_eq_false (by omega)]
end Go.Proofs.Ytnllilpbgenjbaa.Pure
