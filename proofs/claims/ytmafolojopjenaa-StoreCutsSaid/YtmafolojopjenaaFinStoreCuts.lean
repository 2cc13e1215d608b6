/- Behind a crash the record that was cut is recovered just if all its bytes were kept, all others are. -/
import Derived.Test.YtmafolojopjenaaStoG
namespace Go.Proofs.Ytmafolojopjenaa.R
open Go.RowKit Go.Shelf Go.Proofs.YtmafolojopjenaaW.PrintWords Go.Proofs.YtmafolojopjenaaW.PrintMore Go.Proofs.Ytmafolojopjenaa.Cr Go.Proofs.Ytmafolojopjenaa.Jo Go.Proofs.Ytmafolojopjenaa.P Go.Proofs.Ytmafolojopjenaa.G
set_option linter.unusedVariables false
set_option linter.unusedSimpArgs false
attribute [local go_sem] Oper.semAt_some max2_int min2_int max_two min_two

theorem cut_of (ds : List Jo.Bs) (d : Jo.Bs) (k : Nat) (h : (recsL ds).length ≤ 100000) (hd : d.length ≤ 4096) :
    writeS { stOf ds with cut := k, isCut := true } (mk d) = ({ stOf ds with recs := mk (recsL ds ++ (recL d).take k), cut := k, isCut := false, isDown := true }, 31) :=
  write_cut { stOf ds with cut := k, isCut := true } d (recsL ds) k rfl rfl rfl rfl hd (by show ((0 : Nat) : Int) + _ ≤ 1048576; omega)
/-- What is recovered of it. -/
theorem back_of (ds : List Jo.Bs) (d : Jo.Bs) (k : Nat) (hds : ∀ x ∈ ds, x.length ≤ 4096) (hd : d.length ≤ 4096) :
    (readS (repairS (mk (recsL ds ++ (recL d).take k)))).1 = (ds ++ if d.length + 9 ≤ k then [d] else []).map mk ∧ repairS (mk (recsL ds ++ (recL d).take k)) = mk (recsL (ds ++ if d.length + 9 ≤ k then [d] else [])) := by
  by_cases h : d.length + 9 ≤ k
  · rw [if_pos h, List.take_of_length_le (by rw [recL_length]; exact h)]
    have h1 : recsL ds ++ recL d = recsL (ds ++ [d]) := by rw [recsL_append, recsL_one]
    have h2 : ∀ x ∈ ds ++ [d], x.length ≤ 4096 := by
      intro x hx
      rcases List.mem_append.1 hx with hx | hx
      · exact hds x hx
      · rw [List.mem_singleton] at hx; rw [hx]; exact hd
    rw [h1, repair_mk', reads_all h2, read_mk', reads_all h2]
    exact ⟨rfl, rfl⟩
  · rw [if_neg h, List.append_nil, repair_mk', reads_recs hds _ (oneL_part hd (by omega)), read_mk', reads_all hds]
    exact ⟨rfl, rfl⟩
set_option maxRecDepth 100000 in
set_option maxHeartbeats 8000000 in
theorem StoreCuts_fin (A0 : Option Addr) (c0 : Nat) (l0 : List ByteArray) (a1 : ByteArray) (a2 : Int) (w : World) (hr0 : Kd.C Kd.string w A0 l0.length l0) (hc0 : l0.length ≤ c0) (_hm0 : l0.length ≤ maxLen) (_hw0 : ∀ z ∈ l0, z.size ≤ maxLen) (_w1 : a1.size ≤ 140737488351232) (_w2 : (Lit.int .i64 a2).wf = true) :
    Calls Try.prog 3 #[.slice A0 l0.length c0, .string a1, .int .i64 a2] w fun e w' => e = .returned (.bool true) ∧ Below w.heap.size w w' := by
  unfold maxLen at _hm0
  obtain ⟨j, hj, hjs⟩ := first100 a1
  go_enter Try.func3, Try.ntmps3
  go_wp2_with (first
    | (go_at_call 14; (with_reducible refine (shown4.is _).mono ?_); rintro e w1 ⟨rfl, hb1⟩)
    | (go_at_call 15; (with_reducible refine (New.ok 1048576 _ (by decide) (by decide)).mono ?_); rintro e w2 ⟨rfl, hs2, hb2⟩))
  have hb12 := G.below_then hb1 hb1.size hb2
  have hg0 : w.heap.size ≤ w1.heap.size := hb1.size
  obtain ⟨g, hg⟩ : ∃ g, w1.heap.size = g := ⟨_, rfl⟩
  rw [hg] at hs2 hg0 ⊢
  clear hb2 hb1 hg hj hjs
  obtain ⟨X, hX⟩ : ∃ X, a1.data.toList.take 100 = X := ⟨_, rfl⟩
  have hXl : X.length ≤ 100 := by rw [← hX]; exact List.length_take_le _ _
  have hcX : cut100 a1 = mk X := by unfold cut100; rw [hX]
  rw [hcX]
  clear hcX hX
  go_loopw [10, 11] (fun v i wr => ∃ k : Nat, k ≤ l0.length ∧ k ≤ 20 ∧ i = .int .i64 k ∧ StS wr g (stOf (upto l0 k)) ∧ Row wr w.heap.size v ((upto l0 k).map mk) ∧ Below w.heap.size w wr) (fun _ i _ => 20 - (intOf i).toNat)
  case atStart => exact ⟨0, Nat.zero_le _, Nat.zero_le _, rfl, hs2, Row.nil _ _, hb12⟩
  case round =>
    obtain ⟨k, hk, hk20, rfl, hS, hR, hB⟩ := hrel
    have hgw : g < wr.heap.size := hS.lt
    have hun := upto_length l0 k
    have huz := upto_size l0 k hk20
    have hus := Lib.hid (upto_small' l0 k)
    by_cases hlt : k < l0.length ∧ k < 20
    · obtain ⟨hl1, hl2⟩ := hlt
      obtain ⟨ad, hAd, hc⟩ := Kd.at_string (Kd.C_below hr0 hB) (k : Int) (by omega) (by omega)
      rw [Pure.rd_at l0 k hl1] at hc
      subst hAd
      simp only [Int.toNat_natCast] at hc
      obtain ⟨j, hj, hjs⟩ := first100 l0[k]
      have hsucc := Lib.hid (upto_succ l0 k hl1)
      obtain ⟨D, hD⟩ : ∃ D, l0[k].data.toList.take 100 = D := ⟨_, rfl⟩
      have hDl : D.length ≤ 100 := by rw [← hD]; exact List.length_take_le _ _
      have hcD : cut100 l0[k] = mk D := by unfold cut100; rw [hD]
      rw [hcD] at hjs
      have hs1 : upto l0 (k + 1) = upto l0 k ++ [D] := by rw [hsucc.out, hD]
      have HS1 := Lib.hid hs1; clear hs1
      have HD := Lib.hid hD; clear hD
      clear hcD
      have hqw := write_of (upto l0 k) D (by omega) (by omega)
      have HQ := Lib.hid hqw; clear hqw
      go_wp2_with (fail)
      go_quiet (fail)
      go_wp2_with (fail)
      refine (Write.is g _ (mk D) _ (show StS (wr.drewN nq) g _ from hS) (stOf_ok _ (by omega)) (by rw [mk_size]; omega)).mono ?_
      rw [HQ.out]
      rintro e w3 ⟨rfl, hs3, hg3⟩
      have hR3 : Row w3 w.heap.size _ _ := Row.over (W := wr.drewN nq) (Kd.R_drewN hR nq) (show StS (wr.drewN nq) g _ from hS) hg3
      have hB3 : Below w.heap.size w w3 := below_grown' (below_drewN hB nq) hB.size hg3 (fun b e => by cases e; exact hg0)
      obtain ⟨v4, w4, hr4, hR4, hg4⟩ := Row.append hR3 (by rw [List.length_map]; omega) hB3.size (mk D)
      have hS4 : StS w4 g _ := StS.over (W := w3.alloc (.cells #[.string (mk D)] 9)) (Blk.alloc hs3 _) (Kd.R_alloc hR3 _) hg4
      have hB4 : Below w.heap.size w w4 := below_grown' (hB3.alloc hB3.size _) (by have := hB3.size; simp; omega) hg4 (own_block_ge hR3)
      have HR4 := Lib.hid hr4; clear hr4
      go_wp2_with (at_builtin; refine wpList_append_run rfl rfl rfl rfl HR4.out ?_)
      go_roundw
      case rel => exact ⟨k + 1, by omega, by omega, by go_num, by rw [HS1.out]; exact hS4, by rw [HS1.out, List.map_append]; exact hR4, hB4⟩
      case measure => simp [intOf]; omega
    · obtain ⟨ds, hds⟩ : ∃ ds, upto l0 k = ds := ⟨_, rfl⟩
      rw [hds] at hS hR hun huz hus
      clear hds
      have hend : (k < l0.length ∧ k = 20) ∨ k = l0.length := by omega
      clear hlt
      rcases hend with ⟨hl, rfl⟩ | rfl
      all_goals
        by_cases hneg : a2 < 0
        · have hdn : decide (a2 < 0) = true := by simpa using hneg
          have hcq : cutS (stOf ds) a2 = (stOf ds, 2) := by unfold cutS; rw [if_neg (by simp [stOf]), if_pos hneg]
          have HCQ := Lib.hid hcq; clear hcq
          have HN := Lib.hid hneg; clear hneg
          go_wp2_with (fail)
          refine (Cut.is g _ a2 _ hS).mono ?_
          rw [HCQ.out]
          rintro e w3 ⟨rfl, hs3, hg3⟩
          go_wp2
          go_ret
          exact ⟨rfl, below_grown' hB hB.size hg3 (fun b e => by cases e; exact hg0)⟩
        · have hdn : decide (a2 < 0) = false := by simpa using hneg
          obtain ⟨K, rfl⟩ := Int.eq_ofNat_of_zero_le (show 0 ≤ a2 by omega)
          have hcq : cutS (stOf ds) K = ({ stOf ds with cut := K, isCut := true }, 0) := by unfold cutS; rw [if_neg (by simp [stOf]), if_neg hneg]
          have hwq := cut_of ds X K (by omega) (by omega)
          obtain ⟨b1, b2⟩ := back_of ds X K hus.out (by omega)
          have hxs : (mk X).size = X.length := mk_size X
          have hrz : (mk (recsL ds ++ (recL X).take K)).size ≤ 100000 := by
            rw [mk_size, List.length_append, List.length_take, recL_length]; omega
          have HCQ := Lib.hid hcq; clear hcq
          have HWQ := Lib.hid hwq; clear hwq
          have HB1 := Lib.hid b1; clear b1
          have HB2 := Lib.hid b2; clear b2
          have HRZ := Lib.hid hrz; clear hrz
          have HN := Lib.hid hneg; clear hneg
          go_wp2_with (fail)
          refine (Cut.is g _ (K : Int) _ hS).mono ?_
          rw [HCQ.out]
          rintro e w3 ⟨rfl, hs3, hg3⟩
          have hR3 := Row.over hR hS hg3
          go_wp2_with (fail)
          refine (Write.is g _ (mk X) _ hs3 ⟨(stOf_ok ds (by omega)).room, (stOf_ok ds (by omega)).cap, fun _ => by show (0 : Int) ≤ (K : Int); omega⟩ (by rw [mk_size]; omega)).mono ?_
          rw [HWQ.out]
          rintro e w4 ⟨rfl, hs4, hg4⟩
          have hR4 := Row.over hR3 hs3 hg4
          go_wp2_with (fail)
          refine (Snapshot.is g _ (mk X) _ hs4 ⟨by show ((0 : Nat) : Int) + ((mk (recsL ds ++ (recL X).take K)).size : Int) ≤ 1048576; have := HRZ.out; omega, Int.le_refl _, fun h => by cases h⟩ (by rw [mk_size]; omega)).mono ?_
          rw [snap_down _ _ rfl]
          rintro e w5 ⟨rfl, hs5, hg5⟩
          have hR5 := Row.over hR4 hs4 hg5
          go_wp2_with (fail)
          refine (Recover.is g _ _ hs5 (Nat.zero_le _) (by show (mk (recsL ds ++ (recL X).take K)).size ≤ _; have := HRZ.out; omega)).mono ?_
          rintro e w6 ⟨v6, rfl, hs6, hR6, hg6⟩
          have hRW6 := Row.over hR5 hs5 hg6
          obtain ⟨inn, hoo⟩ := Kd.R_own hR5
          have hRn := Kd.R_new hR6 hoo
          clear hoo
          rw [show (readS (repairS ({ stOf ds with recs := mk (recsL ds ++ (recL X).take K), cut := (K : Int), isCut := false, isDown := true } : St).recs)).1 = _ from HB1.out] at hR6 hRn
          have hs6' : StS w6 g { stOf ds with recs := mk (recsL (ds ++ if X.length + 9 ≤ K then [X] else [])), cut := (K : Int), isCut := false, isDown := false } := by
            have h := hs6
            unfold recoverS at h
            rw [show repairS ({ stOf ds with recs := mk (recsL ds ++ (recL X).take K), cut := (K : Int), isCut := false, isDown := true } : St).recs = _ from HB2.out] at h
            exact h
          have hg36 := grown_trans (grown_trans (grown_trans hg3 hg4) hg5) hg6
          have hB6 : Below w.heap.size w w6 := below_grown' hB hB.size hg36 (fun b e => by cases e; exact hg0)
          clear hg3 hg4 hg5 hg6 hR3 hR4 hR5 hs3 hs4 hs5 hg36 hs6 hR hS hB
          obtain ⟨A6, c6, rfl, hlc6, hC6⟩ := Kd.R_reads hR6
          have hwz : ∀ E : List Jo.Bs, (recsL (ds ++ E)).length ≤ 100000 → writeS { stOf ds with recs := mk (recsL (ds ++ E)), cut := (K : Int), isCut := false, isDown := false } (mk [122]) = ({ stOf ds with recs := mk (recsL (ds ++ E) ++ recL [122]), cut := (K : Int), isCut := false, isDown := false }, 0) := by
            intro E hE
            exact write_ok { stOf ds with recs := mk (recsL (ds ++ E)), cut := (K : Int), isCut := false, isDown := false } [122] (recsL (ds ++ E)) rfl rfl rfl (by decide) (by show ((0 : Nat) : Int) + (((recsL (ds ++ E)).length + (1 + 9) : Nat) : Int) ≤ 1048576; omega)
          have HWZ := Lib.hid hwz; clear hwz
          by_cases hK : X.length + 9 ≤ K
          · have hdk : decide ((X.length : Int) + 9 ≤ (K : Int)) = true := by simp; omega
            have hE : (if X.length + 9 ≤ K then [X] else []) = [X] := if_pos hK
            rw [hE] at hs6' hlc6 hC6 hRn ⊢
            have hel : (recsL (ds ++ [X])).length ≤ 100000 := by rw [recsL_append, recsL_one, List.length_append, recL_length]; omega
            have hsame : ds.map mk ++ [mk X] = (ds ++ [X]).map mk := by rw [List.map_append]; rfl
            obtain ⟨v7, w7, hr7, hR7, hg7⟩ := Row.append hRW6 (by rw [List.length_map]; omega) hB6.size (mk X)
            have hS7 : StS w7 g _ := StS.over (W := w6.alloc (.cells #[.string (mk X)] 9)) (Blk.alloc hs6' _) (Kd.R_alloc hRW6 _) hg7
            have hB7 : Below w.heap.size w w7 := below_grown' (hB6.alloc hB6.size _) (by have := hB6.size; simp; omega) hg7 (own_block_ge hRW6)
            rw [hsame] at hR7
            obtain ⟨A7, c7, rfl, hlc7, hC7⟩ := Kd.R_reads hR7
            have hC6' : Kd.C Kd.string w7 A6 ((ds ++ [X]).map mk).length ((ds ++ [X]).map mk) := by
              have h1 := Kd.R_grown (Kd.R_alloc hRn (.cells #[.string (mk X)] 9)) hg7 (fun k hk => hk.2)
              obtain ⟨A6', c6', e6, _, h2⟩ := Kd.R_reads h1
              injection e6 with e1 e2 e3
              rw [e1]
              exact h2
            have HR7 := Lib.hid hr7; clear hr7
            have HE := Lib.hid hE; clear hE
            have HSM := Lib.hid hsame; clear hsame
            have hml : ((ds ++ [X]).map mk).length ≤ 100 := by rw [List.length_map, List.length_append]; simp; omega
            go_wp2_with (at_builtin; refine wpList_append_run rfl rfl rfl rfl HR7.out ?_)
            have SY := Lib.hid (Same.yes A6 A7 c6 c7 (ds.length + 1) (ds.length + 1) ((ds ++ [X]).map mk) w7 hC6' hlc6 hC7 hlc7 (by omega) (by simp) (by simp))
            clear hC6' hC7 hlc6 hlc7 hC6 hR6 hRn
            (with_reducible refine SY.out.mono ?_)
            rintro e w8 ⟨rfl, n8, rfl⟩
            go_wp2_with (fail)
            have WZ := Lib.hid (Write.is g _ (mk [122]) (w7.drewN n8) (show StS (w7.drewN n8) g _ from hS7) ⟨by show ((0 : Nat) : Int) + ((mk (recsL (ds ++ [X]))).size : Int) ≤ 1048576; rw [mk_size]; omega, Int.le_refl _, fun h => by cases h⟩ (by decide))
            refine WZ.out.mono ?_
            rw [HWZ.out [X] hel]
            rintro e w9 ⟨rfl, _, hg9⟩
            go_wp2
            go_ret
            exact ⟨rfl, below_grown' (below_drewN hB7 n8) hB7.size hg9 (fun b e => by cases e; exact hg0)⟩
          · have hdk : decide ((X.length : Int) + 9 ≤ (K : Int)) = false := by simp; omega
            have hE : (if X.length + 9 ≤ K then [X] else []) = [] := if_neg hK
            rw [hE] at hs6' hlc6 hC6 hRn ⊢
            have hel : (recsL (ds ++ [])).length ≤ 100000 := by rw [List.append_nil]; omega
            have hsame : ds.map mk = (ds ++ []).map mk := by rw [List.append_nil]
            rw [hsame] at hRW6
            obtain ⟨A7, c7, rfl, hlc7, hC7⟩ := Kd.R_reads hRW6
            have HE := Lib.hid hE; clear hE
            have HSM := Lib.hid hsame; clear hsame
            have hml : ((ds ++ []).map mk).length ≤ 100 := by rw [List.append_nil, List.length_map]; omega
            have SY := Lib.hid (Same.yes A6 A7 c6 c7 ds.length ds.length ((ds ++ []).map mk) w6 hC6 hlc6 hC7 hlc7 (by omega) (by simp) (by simp))
            clear hC7 hlc6 hlc7 hC6 hR6 hRn
            go_wp2_with (fail)
            (with_reducible refine SY.out.mono ?_)
            rintro e w8 ⟨rfl, n8, rfl⟩
            go_wp2_with (fail)
            have WZ := Lib.hid (Write.is g _ (mk [122]) (w6.drewN n8) (show StS (w6.drewN n8) g _ from hs6') ⟨by show ((0 : Nat) : Int) + ((mk (recsL (ds ++ []))).size : Int) ≤ 1048576; rw [mk_size]; omega, Int.le_refl _, fun h => by cases h⟩ (by decide))
            refine WZ.out.mono ?_
            rw [HWZ.out [] hel]
            rintro e w9 ⟨rfl, _, hg9⟩
            go_wp2
            go_ret
            exact ⟨rfl, below_grown' (below_drewN hB6 n8) hB6.size hg9 (fun b e => by cases e; exact hg0)⟩
end Go.Proofs.Ytmafolojopjenaa.R
