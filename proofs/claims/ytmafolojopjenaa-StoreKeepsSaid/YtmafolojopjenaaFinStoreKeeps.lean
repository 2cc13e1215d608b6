/- What was written without a cut is recovered, in order, behind the last snapshot. -/
import Derived.Test.YtmafolojopjenaaStoG
import Derived.Test.YtmafolojopjenaaKinds
import Derived.Test.YtmafolojopjenaaPx8
namespace Go.Proofs.Ytmafolojopjenaa.R
open Go.RowKit Go.Shelf Go.Proofs.YtmafolojopjenaaW.PrintWords Go.Proofs.YtmafolojopjenaaW.PrintMore Go.Proofs.Ytmafolojopjenaa.Cr Go.Proofs.Ytmafolojopjenaa.Jo Go.Proofs.Ytmafolojopjenaa.P Go.Proofs.Ytmafolojopjenaa.G
set_option linter.unusedVariables false
set_option linter.unusedSimpArgs false
attribute [local go_sem] Oper.semAt_some max2_int min2_int max_two min_two

/-- The law's data. -/
def dataS (s : ByteArray) (n : Int) : Jo.Bs := if n = 99 then List.replicate 5000 0 else s.data.toList.take 100
theorem zeros_mk (n : Nat) : strOfNums (List.replicate n 0) = mk (List.replicate n 0) := by
  unfold strOfNums mk
  congr 2
  rw [List.map_replicate]
  rfl
theorem dataS_is (d : Int) (s : ByteArray) (n : Int) : rostrumlaw04_data.f d s n = some (mk (dataS s n)) := by
  unfold rostrumlaw04_data.f dataS
  by_cases h : n = 99
  · rw [if_pos h, if_pos h, if_pos (by decide), zeros_mk]
  · rw [if_neg h, if_neg h, Pure.mn_lit _ _ (by decide), if_pos (by omega), if_pos (by omega), Int.toNat_natCast, show (100 : Int).toNat = 100 from rfl, Pure.extract_cut]
theorem data.is (d : Int) (s : ByteArray) (n : Int) (w : World) :
    Calls Try.prog 36 #[.agg #[.int .i64 d, .string s, .int .i64 n]] w fun e w' => e = .returned (.string (mk (dataS s n))) ∧ Below w.heap.size w w' :=
  rostrumlaw04_data.calls d s n _ w (dataS_is d s n)
/-- A store with this snapshot and these records. -/
def stK (so : Option Jo.Bs) (ds : List Jo.Bs) : St := ⟨match so with | none => mk [] | some D => mk (recL D), mk (recsL ds), 0, false, false, 1048576⟩
def snapV (so : Option Jo.Bs) : Jo.Bs := so.getD []
structure KeepOk (so : Option Jo.Bs) (ds : List Jo.Bs) (k : Nat) : Prop where
  sn : ∀ D, so = some D → D.length ≤ 100
  sm : ∀ d ∈ ds, d.length ≤ 100
  len : ds.length ≤ k
theorem KeepOk.small {so : Option Jo.Bs} {ds : List Jo.Bs} {k : Nat} (h : KeepOk so ds k) : ∀ d ∈ ds, d.length ≤ 4096 := fun d hd => Nat.le_trans (h.sm d hd) (by decide)
theorem KeepOk.size {so : Option Jo.Bs} {ds : List Jo.Bs} {k : Nat} (h : KeepOk so ds k) : (recsL ds).length ≤ 109 * k := by
  have := Pure.recs_short ds h.sm
  have := h.len
  omega
theorem KeepOk.snap {so : Option Jo.Bs} {ds : List Jo.Bs} {k : Nat} (h : KeepOk so ds k) : (stK so ds).snap.size ≤ 109 := by
  unfold stK
  cases so with
  | none => show (G.mk []).size ≤ 109; rw [mk_size]; decide
  | some D => show (G.mk (recL D)).size ≤ 109; rw [mk_size, recL_length]; have := h.sn D rfl; omega
theorem KeepOk.ok {so : Option Jo.Bs} {ds : List Jo.Bs} {k : Nat} (h : KeepOk so ds k) (hk : k ≤ 60) : StOk (stK so ds) := by
  have h1 := h.size
  have h2 := h.snap
  refine ⟨?_, Int.le_refl _, fun h => by cases h⟩
  show ((stK so ds).snap.size : Int) + ((G.mk (recsL ds)).size : Int) ≤ 1048576
  rw [mk_size]; omega
theorem keep_write {so : Option Jo.Bs} {ds : List Jo.Bs} {k : Nat} (h : KeepOk so ds k) (hk : k < 60) (d : Jo.Bs) (hd : d.length ≤ 100) : writeS (stK so ds) (mk d) = (stK so (ds ++ [d]), 0) ∧ KeepOk so (ds ++ [d]) (k + 1) := by
  have h1 := h.size
  have h2 := h.snap
  constructor
  · rw [write_ok (stK so ds) d (recsL ds) rfl rfl rfl (by omega) (by show ((stK so ds).snap.size : Int) + _ ≤ 1048576; omega)]
    unfold stK
    rw [recsL_append, recsL_one]
  · refine ⟨h.sn, ?_, by rw [List.length_append]; have := h.len; simp; omega⟩
    intro x hx
    rcases List.mem_append.1 hx with hx | hx
    · exact h.sm x hx
    · rw [List.mem_singleton] at hx; rw [hx]; exact hd
theorem keep_snap {so : Option Jo.Bs} {ds : List Jo.Bs} (d : Jo.Bs) (k : Nat) (hd : d.length ≤ 100) : snapS (stK so ds) (mk d) = (stK (some d) [], 0) ∧ KeepOk (some d) [] (k + 1) := by
  constructor
  · rw [snap_ok (stK so ds) d rfl rfl (by omega) (by show ((d.length + 9 : Nat) : Int) ≤ 1048576; omega)]
    rfl
  · exact ⟨fun D e => by cases e; exact hd, by simp, by simp⟩
theorem keep_big (so : Option Jo.Bs) (ds : List Jo.Bs) : writeS (stK so ds) (mk (List.replicate 5000 0)) = (stK so ds, 30) ∧ snapS (stK so ds) (mk (List.replicate 5000 0)) = (stK so ds, 30) := by
  have h : ∀ x, recS (stK so ds) (mk (List.replicate 5000 0)) x = (⟨#[]⟩, 30) := by
    intro x
    unfold recS
    rw [if_neg (by simp [stK]), if_pos (.inl (by rw [mk_size, List.length_replicate]; decide))]
  exact ⟨by unfold writeS; rw [h, if_neg (by decide)], by unfold snapS; rw [h, if_neg (by decide)]⟩
theorem KeepOk.up {so : Option Jo.Bs} {ds : List Jo.Bs} {k : Nat} (h : KeepOk so ds k) : KeepOk so ds (k + 1) := ⟨h.sn, h.sm, Nat.le_succ_of_le h.len⟩
theorem keep_back {so : Option Jo.Bs} {ds : List Jo.Bs} {k : Nat} (h : KeepOk so ds k) : recoverS (stK so ds) = stK so ds ∧ headS (stK so ds) = mk (snapV so) ∧ (readS (repairS (stK so ds).recs)).1 = ds.map mk := by
  have hr : repairS (mk (recsL ds)) = mk (recsL ds) := by rw [repair_mk', reads_all h.small]
  refine ⟨?_, ?_, ?_⟩
  · unfold recoverS stK
    simp only [hr]
  · unfold headS stK snapV
    cases so with
    | none =>
      show (readS (mk [])).1.headD _ = _
      rw [read_mk', readL_none rfl]
      rfl
    | some D =>
      show (readS (mk (recL D))).1.headD _ = _
      have := reads_all (ds := [D]) (by simpa using Nat.le_trans (h.sn D rfl) (by decide : 100 ≤ 4096))
      rw [recsL_one] at this
      rw [read_mk', this]
      rfl
  · show (readS (repairS (mk (recsL ds)))).1 = _
    rw [hr, read_mk', reads_all h.small]
set_option maxRecDepth 100000 in
set_option maxHeartbeats 8000000 in
theorem StoreKeeps_fin (A0 : Option Addr) (c0 : Nat) (l0 : List S54) (w : World) (hr0 : Kd.C k54 w A0 l0.length l0) (hc0 : l0.length ≤ c0) (_hm0 : l0.length ≤ maxLen)
    (hw0 : ∀ z ∈ l0, (Lit.int .i64 z.f0).wf = true ∧ z.f1.size ≤ maxLen ∧ (Lit.int .i64 z.f2).wf = true) :
    Calls Try.prog 13 #[.slice A0 l0.length c0] w fun e w' => e = .returned (.bool true) ∧ Below w.heap.size w w' := by
  unfold maxLen at _hm0
  go_enter Try.func13, Try.ntmps13
  go_wp2_with (first
    | (go_at_call 14; (with_reducible refine (shown4.is _).mono ?_); rintro e w1 ⟨rfl, hb1⟩)
    | (go_at_call 15; (with_reducible refine (New.ok 1048576 _ (by decide) (by decide)).mono ?_); rintro e w2 ⟨rfl, hs2, hb2⟩))
  have hb12 := G.below_then hb1 hb1.size hb2
  have hg0 : w.heap.size ≤ w1.heap.size := hb1.size
  obtain ⟨g, hg⟩ : ∃ g, w1.heap.size = g := ⟨_, rfl⟩
  rw [hg] at hs2 hg0 ⊢
  clear hb2 hb1 hg
  go_loopw [6, 7, 8] (fun sv v i wr => ∃ (k : Nat) (so : Option Jo.Bs) (ds : List Jo.Bs), k ≤ l0.length ∧ k ≤ 60 ∧ i = .int .i64 k ∧ KeepOk so ds k ∧ sv = .string (mk (snapV so)) ∧ StS wr g (stK so ds) ∧ Row wr w.heap.size v (ds.map mk) ∧ Below w.heap.size w wr) (fun _ _ i _ => 60 - (intOf i).toNat)
  case atStart => exact ⟨0, none, [], Nat.zero_le _, Nat.zero_le _, rfl, ⟨fun D e => (by cases e), by simp, by simp⟩, rfl, hs2, Row.nil _ _, hb12⟩
  case round =>
    obtain ⟨k, so, ds, hk, hk60, rfl, hO, rfl, hS, hR, hB⟩ := hrel
    have HO := Lib.hid hO; clear hO
    by_cases hlt : k < l0.length ∧ k < 60
    · obtain ⟨hl1, hl2⟩ := hlt
      obtain ⟨ad, hAd, x0, x1, x2⟩ := at_T54 (Kd.C_below hr0 hB) (k : Int) (by omega) (by omega)
      rw [rd_get_54 l0 k hl1] at x0 x1 x2
      have hwf := (hw0 l0[k] (List.getElem_mem hl1)).1
      subst hAd
      simp only [Int.toNat_natCast] at x0 x1 x2
      obtain ⟨z, hz⟩ : ∃ z, l0[k] = z := ⟨_, rfl⟩
      rw [hz] at x0 x1 x2 hwf
      clear hz
      obtain ⟨D, hD⟩ : ∃ D, dataS z.f1 z.f2 = D := ⟨_, rfl⟩
      have hdat := fun w => data.is z.f0 z.f1 z.f2 w
      rw [hD] at hdat
      have HDAT := Lib.hid hdat; clear hdat
      have hsmall : D.length ≤ 100 ∨ D = List.replicate 5000 0 := by
        rw [← hD]
        unfold dataS
        split
        · exact .inr rfl
        · exact .inl (List.length_take_le _ _)
      have HD := Lib.hid hD; clear hD
      have xlt := World.block_lt_of_cell? wr _ x0
      obtain ⟨M, hM⟩ : ∃ M, (IntKind.u64.wrap z.f0).tmod 5 = M := ⟨_, rfl⟩
      have hdz : (mk D).size ≤ 140737488351232 := by
        rw [mk_size]
        rcases hsmall with h | h
        · omega
        · rw [h, List.length_replicate]; decide
      have hgo : StOk (stK so ds) := HO.out.ok hk60
      have HGO := Lib.hid hgo; clear hgo
      have HDZ := Lib.hid hdz; clear hdz
      have hln := HO.out.len
      by_cases hw : M = 0 ∨ M = 1
      · rcases hsmall with hd | hbig
        · obtain ⟨q1, q2⟩ := keep_write HO.out hl2 D hd
          have Q1 := Lib.hid q1; clear q1
          have Q2 := Lib.hid q2; clear q2
          have dm : (M == 0) = true ∨ ((M == 0) = false ∧ (M == 1) = true) := by
            rcases hw with rfl | rfl
            · exact .inl rfl
            · exact .inr ⟨rfl, rfl⟩
          clear hw
          rcases dm with d0 | ⟨d0, d1⟩
          all_goals
            go_wp2_with (first | (go_at_call 36; (with_reducible refine (HDAT.out _).mono ?_); rintro e w3 ⟨rfl, hb3⟩; have y0 := (hb3.cell xlt).trans x0))
            have hs3 := StS.below hS hb3
            have hR3 := Row.below hR hb3
            have hB3 := G.below_then hB hB.size hb3
            refine (Write.is g _ (mk D) _ hs3 HGO.out HDZ.out).mono ?_
            rw [Q1.out]
            rintro e w4 ⟨rfl, hs4, hg4⟩
            have hR4 := Row.over hR3 hs3 hg4
            have hB4 : Below w.heap.size w w4 := below_grown' hB3 hB3.size hg4 (fun b e => by cases e; exact hg0)
            obtain ⟨v5, w5, hr5, hR5, hg5⟩ := Row.append hR4 (by rw [List.length_map]; omega) hB4.size (mk D)
            have hS5 : StS w5 g _ := StS.over (W := w4.alloc (.cells #[.string (mk D)] 9)) (Blk.alloc hs4 _) (Kd.R_alloc hR4 _) hg5
            have hB5 : Below w.heap.size w w5 := below_grown' (hB4.alloc hB4.size _) (by have := hB4.size; simp; omega) hg5 (own_block_ge hR4)
            have HR5 := Lib.hid hr5; clear hr5
            go_wp2_with (at_builtin; refine wpList_append_run rfl rfl rfl rfl HR5.out ?_)
            go_roundw
            case rel => exact ⟨k + 1, so, ds ++ [D], by omega, by omega, by go_num, Q2.out, rfl, hS5, by rw [List.map_append]; exact hR5, hB5⟩
            case measure => simp [intOf]; omega
        · subst hbig
          have Q1 := Lib.hid (keep_big so ds).1
          have dm : (M == 0) = true ∨ ((M == 0) = false ∧ (M == 1) = true) := by
            rcases hw with rfl | rfl
            · exact .inl rfl
            · exact .inr ⟨rfl, rfl⟩
          clear hw
          obtain ⟨Z, hZ⟩ : ∃ Z, mk (List.replicate 5000 0) = Z := ⟨_, rfl⟩
          rw [hZ] at HDAT HDZ Q1
          clear hZ
          rcases dm with d0 | ⟨d0, d1⟩
          all_goals
            go_wp2_with (first | (go_at_call 36; (with_reducible refine (HDAT.out _).mono ?_); rintro e w3 ⟨rfl, hb3⟩; have y0 := (hb3.cell xlt).trans x0))
            have hs3 := StS.below hS hb3
            have hR3 := Row.below hR hb3
            have hB3 := G.below_then hB hB.size hb3
            refine (Write.is g _ Z _ hs3 HGO.out HDZ.out).mono ?_
            rw [Q1.out]
            rintro e w4 ⟨rfl, hs4, hg4⟩
            have hR4 := Row.over hR3 hs3 hg4
            have hB4 : Below w.heap.size w w4 := below_grown' hB3 hB3.size hg4 (fun b e => by cases e; exact hg0)
            go_wp2
            go_roundw
            case rel => exact ⟨k + 1, so, ds, by omega, by omega, by go_num, HO.out.up, rfl, hs4, hR4, hB4⟩
            case measure => simp [intOf]; omega
      · have d0 : (M == 0) = false := by simpa using fun h => hw (.inl h)
        have d1 : (M == 1) = false := by simpa using fun h => hw (.inr h)
        clear hw
        by_cases h2 : M = 2
        · have d2 : (M == 2) = true := by simpa using h2
          clear h2
          rcases hsmall with hd | hbig
          · obtain ⟨q1, q2⟩ := keep_snap (so := so) (ds := ds) D k hd
            have Q1 := Lib.hid q1; clear q1
            have Q2 := Lib.hid q2; clear q2
            go_wp2_with (first | (go_at_call 36; (with_reducible refine (HDAT.out _).mono ?_); rintro e w3 ⟨rfl, hb3⟩; have y0 := (hb3.cell xlt).trans x0))
            have hs3 := StS.below hS hb3
            have hB3 := G.below_then hB hB.size hb3
            refine (Snapshot.is g _ (mk D) _ hs3 HGO.out HDZ.out).mono ?_
            rw [Q1.out]
            rintro e w4 ⟨rfl, hs4, hg4⟩
            have hB4 : Below w.heap.size w w4 := below_grown' hB3 hB3.size hg4 (fun b e => by cases e; exact hg0)
            go_wp2
            go_roundw
            case rel => exact ⟨k + 1, some D, [], by omega, by omega, by go_num, Q2.out, rfl, hs4, Row.nil _ _, hB4⟩
            case measure => simp [intOf]; omega
          · subst hbig
            have Q1 := Lib.hid (keep_big so ds).2
            obtain ⟨Z, hZ⟩ : ∃ Z, mk (List.replicate 5000 0) = Z := ⟨_, rfl⟩
            rw [hZ] at HDAT HDZ Q1
            clear hZ
            go_wp2_with (first | (go_at_call 36; (with_reducible refine (HDAT.out _).mono ?_); rintro e w3 ⟨rfl, hb3⟩; have y0 := (hb3.cell xlt).trans x0))
            have hs3 := StS.below hS hb3
            have hR3 := Row.below hR hb3
            have hB3 := G.below_then hB hB.size hb3
            refine (Snapshot.is g _ Z _ hs3 HGO.out HDZ.out).mono ?_
            rw [Q1.out]
            rintro e w4 ⟨rfl, hs4, hg4⟩
            have hR4 := Row.over hR3 hs3 hg4
            have hB4 : Below w.heap.size w w4 := below_grown' hB3 hB3.size hg4 (fun b e => by cases e; exact hg0)
            go_wp2
            go_roundw
            case rel => exact ⟨k + 1, so, ds, by omega, by omega, by go_num, HO.out.up, rfl, hs4, hR4, hB4⟩
            case measure => simp [intOf]; omega
        · have d2 : (M == 2) = false := by simpa using h2
          clear h2 hsmall
          go_wp2_with (first | (go_at_call 36; (with_reducible refine (HDAT.out _).mono ?_); rintro e w3 ⟨rfl, hb3⟩; have y0 := (hb3.cell xlt).trans x0))
          have hs3 := StS.below hS hb3
          have hR3 := Row.below hR hb3
          have hB3 := G.below_then hB hB.size hb3
          go_roundw
          case rel => exact ⟨k + 1, so, ds, by omega, by omega, by go_num, HO.out.up, rfl, hs3, hR3, hB3⟩
          case measure => simp [intOf]; omega
    · have hend : (k < l0.length ∧ k = 60) ∨ k = l0.length := by omega
      clear hlt
      obtain ⟨b1, b2, b3⟩ := keep_back HO.out
      have hz1 : (stK so ds).snap.size ≤ 1000000000 := Nat.le_trans HO.out.snap (by decide)
      have hz2 : (stK so ds).recs.size ≤ 1000000000 := by
        show (mk (recsL ds)).size ≤ _
        have := HO.out.size
        rw [mk_size]; omega
      have hml := HO.out.len
      obtain ⟨H, hH⟩ : ∃ H, mk (snapV so) = H := ⟨_, rfl⟩
      rw [hH] at b2 ⊢
      have B1 := Lib.hid b1; clear b1
      have B2 := Lib.hid b2; clear b2
      have B3 := Lib.hid b3; clear b3
      have Z1 := Lib.hid hz1; clear hz1
      have Z2 := Lib.hid hz2; clear hz2
      have HHH := Lib.hid hH; clear hH
      rcases hend with ⟨hl, rfl⟩ | rfl
      all_goals
        go_wp2_with (fail)
        refine (Recover.is g _ _ hS Z1.out Z2.out).mono ?_
        rw [B1.out, B2.out, B3.out]
        rintro e w5 ⟨v5, rfl, hs5, hR5, hg5⟩
        have hRW5 := Row.over hR hS hg5
        obtain ⟨inn, hoo⟩ := Kd.R_own hR
        have hRn5 := Kd.R_new hR5 hoo
        go_wp2_with (fail)
        refine (Recover.is g _ _ hs5 Z1.out Z2.out).mono ?_
        rw [B1.out, B2.out, B3.out]
        rintro e w6 ⟨v6, rfl, hs6, hR6, hg6⟩
        have hRW6 := Row.over hRW5 hs5 hg6
        have hR56 := Row.over hR5 hs5 hg6
        have hB6 : Below w.heap.size w w6 := below_grown' hB hB.size (grown_trans hg5 hg6) (fun b e => by cases e; exact hg0)
        obtain ⟨A7, c7, rfl, hlc7, hC7⟩ := Kd.R_reads hRW6
        obtain ⟨A5, c5, rfl, hlc5, hC5⟩ := Kd.R_reads hR56
        obtain ⟨A6, c6, rfl, hlc6, hC6⟩ := Kd.R_reads hR6
        have SY1 := Lib.hid (Same.yes A5 A7 c5 c7 ds.length ds.length (ds.map mk) w6 hC5 hlc5 hC7 hlc7 (by simp; omega) (by simp) (by simp))
        have SY2 := Lib.hid (fun n => Same.yes A6 A7 c6 c7 ds.length ds.length (ds.map mk) (w6.drewN n) (Kd.C_drewN hC6 n) hlc6 (Kd.C_drewN hC7 n) hlc7 (by simp; omega) (by simp) (by simp))
        clear hC5 hC6 hC7 hlc5 hlc6 hlc7 hR5 hR56 hR6 hRW5 hRW6 hRn5 hoo hR
        go_wp2_with (fail)
        (with_reducible refine SY1.out.mono ?_)
        rintro e w7 ⟨rfl, n7, rfl⟩
        go_wp2_with (fail)
        (with_reducible refine (SY2.out _).mono ?_)
        rintro e w8 ⟨rfl, n8, rfl⟩
        go_wp2
        go_ret
        exact ⟨rfl, below_drewN hB6 (n7 + n8)⟩
end Go.Proofs.Ytmafolojopjenaa.R
