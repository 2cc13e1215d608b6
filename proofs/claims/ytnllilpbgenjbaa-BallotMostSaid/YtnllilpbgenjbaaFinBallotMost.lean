/- The law's walk: what more than half have voted for in one ballot is decided. -/
import Derived.Test.YtnllilpbgenjbaaPx4
import Derived.Test.YtnllilpbgenjbaaBalS
namespace Go.Proofs.Ytnllilpbgenjbaa.R
open Go.RowKit Go.Proofs.Ytnllilpbgenjbaa.P Go.Proofs.YtnllilpbgenjbaaW.PrintWords Go.Proofs.YtnllilpbgenjbaaW.PrintLast Go.Proofs.YtnllilpbgenjbaaW.PrintMore

theorem most_decides (L : List S24) (x : Int) (t : ByteArray) (h1 : 1 ≤ L.length) (h16 : L.length ≤ 16) (hx : x ≠ 0) (m : List S24) (hm : m = List.replicate (L.length / 2 + 1) ⟨x, x, t⟩ ++ L.drop (L.length / 2 + 1)) :
    G.ballot_Decided.f m = some (G.decidedS m) ∧ ((G.decidedS m).2.2 ≠ 0 ∨ ((G.decidedS m).2.2 = 0 ∧ (G.decidedS m).2.1 = true ∧ (G.decidedS m).1 = t)) := by
  have hl : m.length = L.length := by rw [hm, List.length_append, List.length_replicate, List.length_drop]; omega
  refine ⟨by unfold G.ballot_Decided.f; rw [if_pos (by omega)], ?_⟩
  unfold G.decidedS
  rw [if_neg (by omega)]
  by_cases hr : m.all G.rightV = false
  · rw [if_pos hr]; exact .inl (by decide)
  · rw [if_neg hr]
    have hpre : List.replicate (L.length / 2) (⟨x, x, t⟩ : S24) ++ [⟨x, x, t⟩] <+: G.castL m := by
      rw [hm]
      unfold G.castL
      rw [List.filter_append, List.filter_replicate, if_pos (by simpa using hx), List.replicate_succ']
      exact List.prefix_append _ _
    have hc : m.length / 2 < G.countC (G.keyV (⟨x, x, t⟩ : S24)) (List.replicate (L.length / 2) ⟨x, x, t⟩ ++ [⟨x, x, t⟩]) := by
      unfold G.countC
      rw [← List.replicate_succ', List.filter_replicate, if_pos (by simp), List.length_replicate, hl]
      omega
    obtain ⟨y, hy, hyt⟩ := G.dec_found hpre hc
    rw [hy]
    exact .inr ⟨rfl, rfl, hyt⟩
theorem most_loop (L : List S24) (x : Int) (t : ByteArray) (h1 : 1 ≤ L.length) (h16 : L.length ≤ 16) (hx : x ≠ 0) : ∀ (d i : Nat), i ≤ L.length / 2 + 1 → L.length / 2 + 1 - i = d →
    Pure.Ev (fun k => rostrumlaw08_BallotMost.l0 k L t true (List.replicate i ⟨x, x, t⟩ ++ L.drop i) i x x t) true
  | d, i, hi, hd => by
    have hlen : (List.replicate i (⟨x, x, t⟩ : S24) ++ L.drop i).length = L.length := by rw [List.length_append, List.length_replicate, List.length_drop]; omega
    have hw2 : wrap64 (2 * (i : Int)) = 2 * i := IntWalk.wrap64_in _ (by omega)
    by_cases hc : i ≤ L.length / 2
    · have ih := most_loop L x t h1 h16 hx (d - 1) (i + 1) (by omega) (by omega)
      refine ih.step fun k => ?_
      show rostrumlaw08_BallotMost.l0 (k + 1) L t true (List.replicate i ⟨x, x, t⟩ ++ L.drop i) i x x t = _
      rw [rostrumlaw08_BallotMost.l0]
      rw [hw2, if_pos (by omega), if_pos (by omega), if_pos (by omega), show wrap64 ((i : Int) + 1) = ((i + 1 : Nat) : Int) by rw [IntWalk.wrap64_in _ (by omega)]; rfl]
      congr 1
      rw [Int.toNat_natCast, List.set_append_right _ _ (by simp), List.length_replicate, Nat.sub_self, List.drop_eq_getElem_cons (show i < L.length by omega), List.set_cons_zero, List.replicate_succ', List.append_assoc]
      rfl
    · obtain rfl : i = L.length / 2 + 1 := by omega
      obtain ⟨e1, e2⟩ := most_decides L x t h1 h16 hx _ rfl
      refine Pure.Ev.now fun k => ?_
      show rostrumlaw08_BallotMost.l0 (k + 1) L t true (List.replicate (L.length / 2 + 1) ⟨x, x, t⟩ ++ L.drop (L.length / 2 + 1)) (L.length / 2 + 1 : Nat) x x t = _
      rw [rostrumlaw08_BallotMost.l0]
      rw [hw2, if_neg (by omega), e1]
      simp only [Option.bind_some, if_true]
      rcases e2 with h | ⟨h2, h3, h4⟩
      · rw [if_neg h]
      · rw [if_pos h2, if_pos h3, h4]; simp
theorem BallotMost_fin (A0 : Option Addr) (c0 : Nat) (l0 : List S24) (a1 : ByteArray) (a2 : Int) (w : World) (hr0 : Kd.C k24 w A0 l0.length l0) (hc0 : l0.length ≤ c0) (_hm0 : l0.length ≤ maxLen)
    (_hw0 : ∀ z ∈ l0, (Lit.int .u64 z.f0).wf = true ∧ (Lit.int .u64 z.f1).wf = true ∧ z.f2.size ≤ maxLen) (_w1 : a1.size ≤ 140737488351232) (_w2 : (Lit.int .u64 a2).wf = true) :
    Calls Try.prog 5 #[.slice A0 l0.length c0, .string a1, .int .u64 a2] w fun e w' => e = .returned (.bool true) ∧ Below w.heap.size w w' := by
  obtain ⟨t, ht, _, _⟩ := Pure.cut_is a1
  obtain ⟨L, hL⟩ : ∃ L, L = ((l0.take (mn (l0.length : Int) 16).toNat).take 20).map Pure.cutV := ⟨_, rfl⟩
  have hm1 : 0 ≤ mn (l0.length : Int) 16 := by unfold mn; split <;> omega
  have hm2 : mn (l0.length : Int) 16 ≤ (l0.length : Int) := by unfold mn; split <;> omega
  have hm3 : mn (l0.length : Int) 16 ≤ 16 := by unfold mn; split <;> omega
  have h16 : L.length ≤ 16 := by rw [hL, List.length_map, List.length_take, List.length_take]; omega
  obtain ⟨K1, k1⟩ := Pure.some_ev (l0.take (mn (l0.length : Int) 16).toNat)
  have hj : Pure.Ev (fun k => if (G.castS 0 0 ⟨#[]⟩ a2 t).2.2.2 = 0 then rostrumlaw08_BallotMost.j0 k L t true ((L.length : Int) == 0) (G.castS 0 0 ⟨#[]⟩ a2 t).1 (G.castS 0 0 ⟨#[]⟩ a2 t).2.1 (G.castS 0 0 ⟨#[]⟩ a2 t).2.2.1
      else rostrumlaw08_BallotMost.j0 k L t true true (G.castS 0 0 ⟨#[]⟩ a2 t).1 (G.castS 0 0 ⟨#[]⟩ a2 t).2.1 (G.castS 0 0 ⟨#[]⟩ a2 t).2.2.1) true := by
    by_cases h0 : (G.castS 0 0 ⟨#[]⟩ a2 t).2.2.2 = 0
    · simp only [h0, if_true]
      by_cases hz : L.length = 0
      · rw [show ((L.length : Int) == 0) = true by simp [hz]]
        refine Pure.Ev.now fun k => ?_
        show rostrumlaw08_BallotMost.j0 (k + 1) L t true true _ _ _ = _
        rw [rostrumlaw08_BallotMost.j0]
        rw [if_pos rfl]
      · rw [show ((L.length : Int) == 0) = false by simpa using hz]
        have hcs : ∃ x, x ≠ 0 ∧ G.castS 0 0 ⟨#[]⟩ a2 t = (x, x, t, 0) := by
          unfold G.castS at h0 ⊢
          by_cases hg : G.rightS 0 0 (⟨#[]⟩ : ByteArray) = false ∨ a2 = 0 ∨ ¬ t.size ≤ 4000
          · rw [if_pos hg] at h0; exact absurd h0 (by decide)
          · rw [if_neg hg] at h0 ⊢
            by_cases hlt : a2 < 0
            · rw [if_pos hlt] at h0; exact absurd h0 (by decide)
            · rw [if_neg hlt]; exact ⟨a2, fun h => hg (.inr (.inl h)), rfl⟩
        obtain ⟨x, hx, hcs⟩ := hcs
        rw [hcs]
        have hlp := most_loop L x t (by omega) h16 hx _ 0 (by omega) rfl
        refine hlp.step fun k => ?_
        show rostrumlaw08_BallotMost.j0 (k + 1) L t true false x x t = _
        rw [rostrumlaw08_BallotMost.j0]
        rw [if_neg (by decide), if_pos (by decide)]
        simp only [Option.bind_some, List.replicate_zero, List.nil_append, List.length_nil, List.drop_zero]
        rw [if_pos (by omega)]
        rfl
    · simp only [h0, if_false]
      refine Pure.Ev.now fun k => ?_
      show rostrumlaw08_BallotMost.j0 (k + 1) L t true true _ _ _ = _
      rw [rostrumlaw08_BallotMost.j0]
      rw [if_pos rfl]
  obtain ⟨K2, k2⟩ := hj
  have e1 := k1 (K1 + K2) (by omega)
  have e2 := k2 (K1 + K2) (by omega)
  simp only at e1 e2
  have h : rostrumlaw08_BallotMost.f (K1 + K2) l0 a1 a2 = some true := by
    unfold rostrumlaw08_BallotMost.f
    rw [Pure.shown_true]
    simp only [Option.bind_some]
    rw [if_pos hm1, if_pos hm2, e1, ht]
    simp only [Option.bind_some]
    rw [show G.ballot_Cast.f 0 0 ⟨#[]⟩ a2 t = some (G.castS 0 0 ⟨#[]⟩ a2 t) from rfl]
    simp only [Option.bind_some]
    rw [← hL]
    exact e2
  exact rostrumlaw08_BallotMost.calls (K1 + K2) A0 c0 l0 a1 a2 true w hr0 hc0 h
end Go.Proofs.Ytnllilpbgenjbaa.R
