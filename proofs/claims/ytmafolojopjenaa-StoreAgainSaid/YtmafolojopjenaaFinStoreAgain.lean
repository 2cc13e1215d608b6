/- What is recovered twice is the same, and a cut that was not met is none then. -/
import Derived.Test.YtmafolojopjenaaStoG
namespace Go.Proofs.Ytmafolojopjenaa.R
open Go.RowKit Go.Shelf Go.Proofs.YtmafolojopjenaaW.PrintWords Go.Proofs.YtmafolojopjenaaW.PrintMore Go.Proofs.Ytmafolojopjenaa.Cr Go.Proofs.Ytmafolojopjenaa.Jo Go.Proofs.Ytmafolojopjenaa.P Go.Proofs.Ytmafolojopjenaa.G
set_option linter.unusedVariables false
set_option linter.unusedSimpArgs false
attribute [local go_sem] Oper.semAt_some max2_int min2_int max_two min_two

/-- A store with these records, whatever the cut was. -/
def stA (ds : List Jo.Bs) (c : Int) : St := ⟨⟨#[]⟩, mk (recsL ds), c, false, false, 1048576⟩
theorem cut_then (ds : List Jo.Bs) (k : Int) (h : ∀ x ∈ ds, x.length ≤ 4096) : ∃ c, recoverS (cutS (stOf ds) k).1 = stA ds c ∧ (cutS (stOf ds) k).1.recs = mk (recsL ds) ∧ (cutS (stOf ds) k).1.snap = ⟨#[]⟩ := by
  have hr : repairS (mk (recsL ds)) = mk (recsL ds) := by rw [repair_mk', reads_all h]
  unfold cutS
  rw [if_neg (by simp [stOf])]
  by_cases hk : k < 0
  · rw [if_pos hk]
    exact ⟨0, by unfold recoverS stOf stA; simp only [hr], rfl, rfl⟩
  · rw [if_neg hk]
    exact ⟨k, by unfold recoverS stOf stA; simp only [hr], rfl, rfl⟩
theorem again (ds : List Jo.Bs) (c : Int) (h : ∀ x ∈ ds, x.length ≤ 4096) : recoverS (stA ds c) = stA ds c := by
  have hr : repairS (mk (recsL ds)) = mk (recsL ds) := by rw [repair_mk', reads_all h]
  unfold recoverS stA
  simp only [hr]
set_option maxRecDepth 100000 in
set_option maxHeartbeats 8000000 in
theorem StoreAgain_fin (A0 : Option Addr) (c0 : Nat) (l0 : List ByteArray) (a1 : Int) (w : World) (hr0 : Kd.C Kd.string w A0 l0.length l0) (hc0 : l0.length ≤ c0) (_hm0 : l0.length ≤ maxLen) (_hw0 : ∀ z ∈ l0, z.size ≤ maxLen) (_w1 : (Lit.int .i64 a1).wf = true) :
    Calls Try.prog 12 #[.slice A0 l0.length c0, .int .i64 a1] w fun e w' => e = .returned (.bool true) ∧ Below w.heap.size w w' := by
  unfold maxLen at _hm0
  go_enter Try.func12, Try.ntmps12
  go_wp2_with (first
    | (go_at_call 14; (with_reducible refine (shown4.is _).mono ?_); rintro e w1 ⟨rfl, hb1⟩)
    | (go_at_call 15; (with_reducible refine (New.ok 1048576 _ (by decide) (by decide)).mono ?_); rintro e w2 ⟨rfl, hs2, hb2⟩))
  have hb12 := G.below_then hb1 hb1.size hb2
  have hg0 : w.heap.size ≤ w1.heap.size := hb1.size
  obtain ⟨g, hg⟩ : ∃ g, w1.heap.size = g := ⟨_, rfl⟩
  rw [hg] at hs2 hg0 ⊢
  clear hb2 hb1 hg
  go_loopw [8] (fun i wr => ∃ k : Nat, k ≤ l0.length ∧ k ≤ 20 ∧ i = .int .i64 k ∧ StS wr g (stOf (upto l0 k)) ∧ Below w.heap.size w wr) (fun i _ => 20 - (intOf i).toNat)
  case atStart => exact ⟨0, Nat.zero_le _, Nat.zero_le _, rfl, hs2, hb12⟩
  case round =>
    obtain ⟨k, hk, hk20, rfl, hS, hB⟩ := hrel
    have hun := upto_length l0 k
    have huz := upto_size l0 k hk20
    have hus := Lib.hid (upto_small' l0 k)
    by_cases hlt : k < l0.length ∧ k < 20
    · obtain ⟨hl1, hl2⟩ := hlt
      obtain ⟨ad, hAd, hc⟩ := Kd.at_string (Kd.C_below hr0 hB) (k : Int) (by omega) (by omega)
      rw [Pure.rd_at l0 k hl1] at hc
      subst hAd
      simp only [Int.toNat_natCast] at hc
      obtain ⟨j, hj, hjs⟩ := first100 l0[k]
      have hsucc := Lib.hid (upto_succ l0 k hl1)
      obtain ⟨D, hD⟩ : ∃ D, l0[k].data.toList.take 100 = D := ⟨_, rfl⟩
      have hDl : D.length ≤ 100 := by rw [← hD]; exact List.length_take_le _ _
      have hcD : cut100 l0[k] = mk D := by unfold cut100; rw [hD]
      rw [hcD] at hjs
      have hs1 : upto l0 (k + 1) = upto l0 k ++ [D] := by rw [hsucc.out, hD]
      have HS1 := Lib.hid hs1; clear hs1
      have HD := Lib.hid hD; clear hD
      clear hcD
      have hqw := write_of (upto l0 k) D (by omega) (by omega)
      have W1 := Write.is g _ (mk D) wr.drew (show StS wr.drew g _ from hS) (stOf_ok _ (by omega)) (by rw [mk_size]; omega)
      rw [hqw] at W1
      have HW1 := Lib.hid W1; clear W1
      have HQ := Lib.hid hqw; clear hqw
      go_wp2_with (fail)
      go_region_with (first | (go_at_call 16; refine HW1.out.mono ?_; rintro e w3 ⟨rfl, hs3, hg3⟩))
      all_goals
       go_wp2
       go_roundw
       case rel => exact ⟨k + 1, by omega, by omega, by go_num, by rw [HS1.out]; exact hs3, below_grown' hB.drew hB.size hg3 (fun b e => by cases e; exact hg0)⟩
       case measure => simp [intOf]; omega
    · obtain ⟨ds, hds⟩ : ∃ ds, upto l0 k = ds := ⟨_, rfl⟩
      rw [hds] at hS hun huz hus
      clear hds
      have hend : (k < l0.length ∧ k = 20) ∨ k = l0.length := by omega
      clear hlt
      obtain ⟨c, hq1, hq2, hq3⟩ := cut_then ds a1 hus.out
      have hag := again ds c hus.out
      have hrd : (readS (repairS (mk (recsL ds)))).1 = ds.map mk := by rw [repair_mk', reads_all hus.out, read_mk', reads_all hus.out]
      obtain ⟨σ, hσ⟩ : ∃ σ, (cutS (stOf ds) a1).1 = σ := ⟨_, rfl⟩
      obtain ⟨rc, hrc⟩ : ∃ rc, (cutS (stOf ds) a1).2 = rc := ⟨_, rfl⟩
      have hwz : writeS (stA ds c) (mk [122]) = ({ stA ds c with recs := mk (recsL ds ++ recL [122]) }, 0) := write_ok (stA ds c) [122] (recsL ds) rfl rfl rfl (by decide) (by show ((0 : Nat) : Int) + (((recsL ds).length + (1 + 9) : Nat) : Int) ≤ 1048576; omega)
      rw [hσ] at hq1 hq2 hq3
      have HAG := Lib.hid hag; clear hag
      have HRD := Lib.hid hrd; clear hrd
      have HQ1 := Lib.hid hq1; clear hq1
      have HQ2 := Lib.hid hq2; clear hq2
      have HQ3 := Lib.hid hq3; clear hq3
      have HSI := Lib.hid hσ; clear hσ
      have HRC := Lib.hid hrc; clear hrc
      have HWZ := Lib.hid hwz; clear hwz
      obtain ⟨H, hH⟩ : ∃ H, (readS (⟨#[]⟩ : ByteArray)).1.headD ⟨#[]⟩ = H := ⟨_, rfl⟩
      have HH := Lib.hid hH; clear hH
      rcases hend with ⟨hl, rfl⟩ | rfl
      all_goals
        go_wp2_with (fail)
        refine (Holds.is g _ _ hS (Nat.zero_le _) (by rw [stOf_size]; omega)).mono ?_
        rw [show sumS_ (stOf ds) = ((recsL ds).length : Int) by unfold sumS_; rw [stOf_size]; show ((0 : Nat) : Int) + _ = _; omega]
        rintro e w3 ⟨rfl, hb3⟩
        have hs3 := StS.below hS hb3
        have hB3 := G.below_then hB hB.size hb3
        go_wp2_with (fail)
        refine (Cut.is g _ a1 _ hs3).mono ?_
        rw [HSI.out, HRC.out]
        rintro e w4 ⟨rfl, hs4, hg4⟩
        go_wp2_with (fail)
        refine (Recover.is g _ _ hs4 (by rw [HQ3.out]; decide) (by rw [HQ2.out, mk_size]; omega)).mono ?_
        rw [HQ2.out, HRD.out, HQ1.out, show headS σ = H by unfold headS; rw [HQ3.out, HH.out]]
        rintro e w5 ⟨v5, rfl, hs5, hR5, hg5⟩
        go_wp2_with (fail)
        refine (Recover.is g _ _ hs5 (Nat.zero_le _) (by show (mk (recsL ds)).size ≤ _; rw [mk_size]; omega)).mono ?_
        rw [show (stA ds c).recs = mk (recsL ds) from rfl, HRD.out, HAG.out, show headS (stA ds c) = H from HH.out]
        rintro e w6 ⟨v6, rfl, hs6, hR6, hg6⟩
        have hR5' := Row.over hR5 hs5 hg6
        obtain ⟨A5, c5, rfl, hlc5, hC5⟩ := Kd.R_reads hR5'
        obtain ⟨A6, c6, rfl, hlc6, hC6⟩ := Kd.R_reads hR6
        have hB6 : Below w.heap.size w w6 := below_grown' hB3 hB3.size (grown_trans (grown_trans hg4 hg5) hg6) (fun b e => by cases e; exact hg0)
        have SY := Lib.hid (Same.yes A5 A6 c5 c6 ds.length ds.length (ds.map mk) w6 hC5 hlc5 hC6 hlc6 (by simp; omega) (by simp) (by simp))
        clear hC5 hC6 hlc5 hlc6 hR5 hR5' hR6
        go_wp2_with (fail)
        (with_reducible refine SY.out.mono ?_)
        rintro e w7 ⟨rfl, n7, rfl⟩
        go_wp2_with (fail)
        refine (Holds.is g _ (w6.drewN n7) (show StS (w6.drewN n7) g _ from hs6) (Nat.zero_le _) (by show (mk (recsL ds)).size ≤ _; rw [mk_size]; omega)).mono ?_
        rw [show sumS_ (stA ds c) = ((recsL ds).length : Int) by unfold sumS_; show ((0 : Nat) : Int) + ((mk (recsL ds)).size : Int) = _; rw [mk_size]; omega]
        rintro e w8 ⟨rfl, hb8⟩
        have hs8 : StS w8 g (stA ds c) := StS.below (W := w6.drewN n7) hs6 hb8
        have hB8 : Below w.heap.size w w8 := G.below_then (below_drewN hB6 n7) hB6.size hb8
        go_wp2_with (fail)
        refine (Write.is g _ (mk [122]) _ hs8 ⟨by show ((0 : Nat) : Int) + ((mk (recsL ds)).size : Int) ≤ 1048576; rw [mk_size]; omega, Int.le_refl _, fun h => by cases h⟩ (by decide)).mono ?_
        rw [HWZ.out]
        rintro e w9 ⟨rfl, _, hg9⟩
        go_wp2
        go_ret
        exact ⟨rfl, below_grown' hB8 hB8.size hg9 (fun b e => by cases e; exact hg0)⟩
end Go.Proofs.Ytmafolojopjenaa.R
