/- Where nobody has voted one's own value may be proposed. -/
import Derived.Test.YtnllilpbgenjbaaPx8
import Derived.Test.YtnllilpbgenjbaaBalS
namespace Go.Proofs.Ytnllilpbgenjbaa.Pure
open Go.RowKit Go.Proofs.Ytnllilpbgenjbaa.P Go.Proofs.YtnllilpbgenjbaaW.PrintWords Go.Proofs.YtnllilpbgenjbaaW.PrintLast Go.Proofs.YtnllilpbgenjbaaW.PrintMore

/-- An acceptor that has promised this and has not voted. -/
def freshV (n : Int) : S24 := ⟨n, 0, ⟨#[]⟩⟩
theorem castL_fresh (l : List Int) : G.castL (l.map freshV) = [] := by
  unfold G.castL
  rw [List.filter_eq_nil_iff]
  intro x hx
  obtain ⟨n, _, rfl⟩ := List.mem_map.1 hx
  simp [freshV]
theorem right_fresh {l : List Int} (h : ∀ x ∈ l, 0 ≤ x) : (l.map freshV).all G.rightV = true := by
  rw [List.all_eq_true]
  intro x hx
  obtain ⟨n, hn, rfl⟩ := List.mem_map.1 hx
  have := h n hn
  unfold G.rightV G.rightS freshV
  simp [this]
  exact ⟨by decide, rfl⟩
theorem own_loop (n : Int) (l : List Int) (s : ByteArray) (hl : ∀ x ∈ l, 0 ≤ x) (hn : -9223372036854775808 ≤ n ∧ n < 9223372036854775808) :
    ∀ (k i : Nat), i ≤ 16 → i ≤ l.length → 16 - i < k → rostrumlaw08_BallotOwn.l0 k n l s true ((l.take i).map freshV) i = some true
  | 0, i, _, _, h => by omega
  | k + 1, i, hi, hil, hk => by
    obtain ⟨t, ht, hts⟩ : ∃ t, t = s.extract 0 (mn (s.size : Int) 4000).toNat ∧ t.size ≤ 4000 := by
      refine ⟨_, rfl, ?_⟩
      have h3 : mn (s.size : Int) 4000 ≤ 4000 := by unfold mn; split <;> omega
      rw [ByteArray.size_extract]; omega
    have h1 : 0 ≤ mn (s.size : Int) 4000 := by unfold mn; split <;> omega
    have h2 : mn (s.size : Int) 4000 ≤ (s.size : Int) := by unfold mn; split <;> omega
    have hlen : ((l.take i).map freshV).length = i := by simp; omega
    have hp : G.ballot_Proposal.f n ((l.take i).map freshV) t = some (if n < 1 ∨ 16 < n ∨ n < i ∨ (i : Int) ≤ n / 2 then (⟨#[]⟩, 81) else (t, 0)) := by
      unfold G.ballot_Proposal.f
      rw [if_pos (by omega), Option.some_inj]
      unfold G.proposalS
      rw [hlen]
      by_cases hg : n < 1 ∨ 16 < n ∨ n < i ∨ (i : Int) ≤ n / 2
      · rw [if_pos hg, if_pos hg]
      · rw [if_neg hg, if_neg hg, if_neg, castL_fresh]
        · rfl
        · rw [right_fresh (fun x hx => hl x (List.mem_of_mem_take hx))]
          simp [hts]
    unfold rostrumlaw08_BallotOwn.l0
    by_cases hlt : i < l.length ∧ i < 16
    · rw [if_pos (by omega), if_pos (by omega), if_pos (by omega), if_pos (by omega)]
      have hr : (⟨rd l i, 0, (⟨#[]⟩ : ByteArray)⟩ : S24) = freshV l[i] := by
        unfold freshV
        congr 1
        simp [rd, List.getD_eq_getElem?_getD, hlt.1]
      rw [hr, show wrap64 ((i : Int) + 1) = ((i + 1 : Nat) : Int) by rw [IntWalk.wrap64_in _ (by omega)]; rfl,
        show (l.take i).map freshV ++ [freshV l[i]] = (l.take (i + 1)).map freshV by rw [List.take_succ_eq_append_getElem hlt.1, List.map_append]; rfl]
      exact own_loop n l s hl hn k (i + 1) (by omega) (by omega) (by omega)
    · have key : ((G.ballot_Proposal.f n ((l.take i).map freshV) (s.extract 0 ((mn (s.size : Int) 4000) : Int).toNat)).bind fun bt237 => (if n < 1 then (if true = true then (some (bt237.2 == 81)) else (some false)) else (if n > 16 then (if true = true then (some (bt237.2 == 81)) else (some false)) else (if ((((l.take i).map freshV)).length : Int) > n then (if true = true then (some (bt237.2 == 81)) else (some false)) else (if (wrap64 (2 * ((((l.take i).map freshV)).length : Int))) ≤ n then (if true = true then (some (bt237.2 == 81)) else (some false)) else (if true = true then (if bt237.2 = 0 then (some (bt237.1.toList == (s.extract 0 ((mn (s.size : Int) 4000) : Int).toNat).toList)) else (some false)) else (some false))))))) = some true := by
        rw [← ht, hp, hlen]
        simp only [Option.bind_some, if_true]
        rw [show wrap64 (2 * (i : Int)) = 2 * i by exact IntWalk.wrap64_in _ (by omega)]
        by_cases a1 : n < 1
        · rw [if_pos a1, if_pos (.inl a1)]; rfl
        · rw [if_neg a1]
          by_cases a2 : n > 16
          · rw [if_pos a2, if_pos (.inr (.inl a2))]; rfl
          · rw [if_neg a2]
            by_cases a3 : (i : Int) > n
            · rw [if_pos a3, if_pos (.inr (.inr (.inl a3)))]; rfl
            · rw [if_neg a3]
              by_cases a4 : 2 * (i : Int) ≤ n
              · rw [if_pos a4, if_pos (.inr (.inr (.inr (by omega))))]; rfl
              · rw [if_neg a4, if_neg (show ¬ (n < 1 ∨ 16 < n ∨ n < i ∨ (i : Int) ≤ n / 2) by omega)]
                simp
      by_cases hl' : (i : Int) < (l.length : Int)
      · rw [if_pos hl', if_neg (by omega), if_pos h1, if_pos h2]
        exact key
      · rw [if_neg hl', if_pos h1, if_pos h2]
        exact key
theorem BallotOwn : rostrumlaw08_BallotOwn.Pure := by
  intro n l s hn _ _ hl _
  refine ⟨18, ?_⟩
  unfold rostrumlaw08_BallotOwn.f
  rw [shown_true]
  simp only [Option.bind_some]
  exact own_loop n l s (fun x hx => (wf_u64 (hl x hx)).1) (wf_i64 hn) 18 0 (by omega) (by omega) (by omega)
end Go.Proofs.Ytnllilpbgenjbaa.Pure
