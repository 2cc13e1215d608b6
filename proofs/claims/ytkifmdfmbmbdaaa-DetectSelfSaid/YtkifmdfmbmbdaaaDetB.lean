/- Who seems to be down: New, Hear, Timeout. -/
import Derived.Test.YtkifmdfmbmbdaaaDetA
import Derived.Test.YtkifmdfmbmbdaaaWMore
namespace Go.Proofs.Ytkifmdfmbmbdaaa.G
open Go.RowKit Go.Proofs.YtkifmdfmbmbdaaaW.PrintWords Go.Proofs.YtkifmdfmbmbdaaaW.PrintMore
set_option linter.unusedVariables false
set_option linter.unusedSimpArgs false
attribute [local go_sem] run_makeMap min2_int min_two
/-- A goal that several ways come to: said once. -/
structure Same_ (p : Prop) : Prop where
  val : p

theorem DetS.push {W : World} {g M : Nat} {s : Det} (h : DetS W g M s) (k : Nat) (hk : s.ps.length = k) (p : Peer) :
    ∃ W', (Instr.mapUpdate 48 (.map (some M)) (.int .i64 k) (.agg #[.int .u64 p.last, .int .u64 p.tmo, .bool p.sus])).run Try.prog W = .ok () W' ∧ DetS W' g M { s with ps := s.ps ++ [p] } ∧ W.grownBy W' (some M) ∧ W'.heap.size = W.heap.size := by
  have hne := h.ne
  obtain ⟨h1, m, hm, hp⟩ := h
  obtain ⟨W', hr, hm', hg, hs⟩ := hm.update und_map (k : Int) (peerV p)
  subst hk
  exact ⟨W', hr, ⟨h1.kept hg (fun e => hne (Option.some.inj e)), _, hm', pmap_push hp p⟩, hg, hs⟩
/-- How a detector may be made. -/
def NewOk (self n b0 b1 b2 now : Int) : Prop := 1 ≤ n ∧ n ≤ 16 ∧ 0 ≤ self ∧ self < n ∧ 1 ≤ b0 ∧ b0 ≤ b1 ∧ b1 ≤ 1152921504606846976 ∧ b2 ≤ 1152921504606846976 ∧ now ≤ 1152921504606846976
set_option maxRecDepth 100000 in
set_option maxHeartbeats 4000000 in
theorem New.bad (self n b0 b1 b2 now : Int) (w : World) (h : ¬ NewOk self n b0 b1 b2 now) :
    Calls Try.prog 14 #[.int .i64 self, .int .i64 n, .agg #[.int .u64 b0, .int .u64 b1, .int .u64 b2], .int .u64 now] w fun e w' => e = .returned (.tuple #[.pointer none, .int .i64 70]) ∧ Below w.heap.size w w' := by
  unfold NewOk at h
  have hb : Below w.heap.size w (w.alloc (.cells #[.int .u64 b0, .int .u64 b1, .int .u64 b2] 35)) := (Below.refl _ w).alloc (Nat.le_refl _) _

  by_cases h0 : n < 1
  · have d0 : decide (n < 1) = true := by simpa using h0
    clear h h0
    go_enter Try.func14, Try.ntmps14
    go_wp2
    go_ret2
    exact ⟨rfl, hb⟩
  have d0 : decide (n < 1) = false := by simpa using h0
  by_cases h1 : 16 < n
  · have d1 : decide (16 < n) = true := by simpa using h1
    clear h h0 h1
    go_enter Try.func14, Try.ntmps14
    go_wp2
    go_ret2
    exact ⟨rfl, hb⟩
  have d1 : decide (16 < n) = false := by simpa using h1
  by_cases h2 : self < 0
  · have d2 : decide (self < 0) = true := by simpa using h2
    clear h h0 h1 h2
    go_enter Try.func14, Try.ntmps14
    go_wp2
    go_ret2
    exact ⟨rfl, hb⟩
  have d2 : decide (self < 0) = false := by simpa using h2
  by_cases h3 : n ≤ self
  · have d3 : decide (n ≤ self) = true := by simpa using h3
    clear h h0 h1 h2 h3
    go_enter Try.func14, Try.ntmps14
    go_wp2
    go_ret2
    exact ⟨rfl, hb⟩
  have d3 : decide (n ≤ self) = false := by simpa using h3
  by_cases h4 : b0 < 1
  · have d4 : decide (b0 < 1) = true := by simpa using h4
    clear h h0 h1 h2 h3 h4
    go_enter Try.func14, Try.ntmps14
    go_wp2
    go_ret2
    exact ⟨rfl, hb⟩
  have d4 : decide (b0 < 1) = false := by simpa using h4
  by_cases h5 : b1 < b0
  · have d5 : decide (b1 < b0) = true := by simpa using h5
    clear h h0 h1 h2 h3 h4 h5
    go_enter Try.func14, Try.ntmps14
    go_wp2
    go_ret2
    exact ⟨rfl, hb⟩
  have d5 : decide (b1 < b0) = false := by simpa using h5
  have hw : decide (b1 ≤ 1152921504606846976 ∧ b2 ≤ 1152921504606846976 ∧ now ≤ 1152921504606846976) = false := by simp; omega
  have hwi := fun W B c0 c1 c2 => within3 1152921504606846976 b1 b2 now B W c0 c1 c2
  rw [hw] at hwi
  have HW := Lib.hid hwi; clear hwi
  clear h h0 h1 h2 h3 h4 h5 hw
  go_enter Try.func14, Try.ntmps14
  go_wp2_with (fail)
  refine (HW.out _ _ (by simp [go_sem]) (by simp [go_sem]) (by simp [go_sem])).mono ?_
  rintro e w' ⟨rfl, rfl⟩
  go_wp2
  go_ret2
  exact ⟨rfl, hb.alloc hb.size _⟩
set_option maxRecDepth 100000 in
set_option maxHeartbeats 4000000 in
theorem New.ok (self b0 b1 b2 now : Int) (n : Nat) (w : World) (h : NewOk self n b0 b1 b2 now) :
    Calls Try.prog 14 #[.int .i64 self, .int .i64 n, .agg #[.int .u64 b0, .int .u64 b1, .int .u64 b2], .int .u64 now] w fun e w' => ∃ g M, e = .returned (.tuple #[.pointer (some ⟨g, 0, none⟩), .int .i64 0]) ∧ DetS w' g M ⟨self, b0, b1, b2, now, List.replicate n ⟨now, b0, false⟩⟩ ∧ Below w.heap.size w w' ∧ w.heap.size ≤ g ∧ w.heap.size ≤ M := by
  unfold NewOk at h
  have hb : Below w.heap.size w (w.alloc (.cells #[.int .u64 b0, .int .u64 b1, .int .u64 b2] 35)) := (Below.refl _ w).alloc (Nat.le_refl _) _
  have d0 : decide ((n : Int) < 1) = false := by simp; omega
  have d1 : decide (16 < (n : Int)) = false := by simp; omega
  have d2 : decide (self < 0) = false := by simp; omega
  have d3 : decide ((n : Int) ≤ self) = false := by simp; omega
  have d4 : decide (b0 < 1) = false := by simp; omega
  have d5 : decide (b1 < b0) = false := by simp; omega
  have hw : decide (b1 ≤ 1152921504606846976 ∧ b2 ≤ 1152921504606846976 ∧ now ≤ 1152921504606846976) = true := by simp; omega
  have hwi := fun W B c0 c1 c2 => within3 1152921504606846976 b1 b2 now B W c0 c1 c2
  rw [hw] at hwi
  have HW := Lib.hid hwi; clear hwi
  have hn16 : n ≤ 16 := by omega
  clear h hw
  go_enter Try.func14, Try.ntmps14
  go_wp2_with (fail)
  refine (HW.out _ _ (by simp [go_sem]) (by simp [go_sem]) (by simp [go_sem])).mono ?_
  rintro e w' ⟨rfl, rfl⟩
  go_wp2_with (fail)
  obtain ⟨W3, hW3⟩ : ∃ W3, (w.alloc (.cells #[.int .u64 b0, .int .u64 b1, .int .u64 b2] 35)).alloc (.cells #[.int .u64 b1, .int .u64 b2, .int .u64 now] 22) = W3 := ⟨_, rfl⟩
  have hb3 : Below w.heap.size w W3 := by rw [← hW3]; exact hb.alloc hb.size _
  have hz3 : W3.heap.size = w.heap.size + 2 := by rw [← hW3]; simp
  have hx3 : Blk W3 w.heap.size 35 #[.int .u64 b0, .int .u64 b1, .int .u64 b2] := by rw [← hW3]; exact (Blk.new w _ _).alloc _
  have hx4 := (hx3.alloc (.map #[] 0)).alloc (.cells (detC W3.heap.size ⟨self, b0, b1, b2, now, []⟩) 50)
  have hd4 : DetS ((W3.alloc (.map #[] 0)).alloc (.cells (detC W3.heap.size ⟨self, b0, b1, b2, now, []⟩) 50)) (W3.alloc (.map #[] 0)).heap.size W3.heap.size ⟨self, b0, b1, b2, now, []⟩ :=
    ⟨Blk.new _ _ _, [], (MapIs.made W3).alloc _, rfl, fun i => by split <;> rfl⟩
  have hb4 : Below w.heap.size w ((W3.alloc (.map #[] 0)).alloc (.cells (detC W3.heap.size ⟨self, b0, b1, b2, now, []⟩) 50)) := (hb3.alloc hb3.size _).alloc (hb3.alloc hb3.size _).size _
  simp only [World.size_alloc, hz3] at hd4 hx4 hb4
  obtain ⟨W4, hW4⟩ : ∃ W4, (W3.alloc (.map #[] 0)).alloc (.cells (detC (w.heap.size + 2) ⟨self, b0, b1, b2, now, []⟩) 50) = W4 := ⟨_, rfl⟩
  rw [hW4] at hd4 hx4 hb4
  rw [hW3]
  have HW3 := Lib.hid hW3; clear hW3
  have HW4 := Lib.hid hW4; clear hW4
  have y0 : W3.cell? ⟨w.heap.size, 0, none⟩ = some (.int .u64 b0) := hx3.cell 0
  have y1 : W3.cell? ⟨w.heap.size, 1, none⟩ = some (.int .u64 b1) := hx3.cell 1
  have y2 : W3.cell? ⟨w.heap.size, 2, none⟩ = some (.int .u64 b2) := hx3.cell 2
  go_wp2_with (fail)
  rw [show (W3.alloc (.map #[] 0)).alloc (.cells #[.map (some (w.heap.size + 2)), .int .i64 self, .int .u64 b0, .int .u64 b1, .int .u64 b2, .int .u64 now] 50) = W4 from HW4.out]
  go_loopw [56] (fun i wr => ∃ k : Nat, k ≤ n ∧ i = .int .i64 k ∧ DetS wr (w.heap.size + 3) (w.heap.size + 2) ⟨self, b0, b1, b2, now, List.replicate k ⟨now, b0, false⟩⟩ ∧ Blk wr w.heap.size 35 #[.int .u64 b0, .int .u64 b1, .int .u64 b2] ∧ Below w.heap.size w wr) (fun i _ => n - (intOf i).toNat)
  case atStart => exact ⟨0, Nat.zero_le _, rfl, hd4, hx4, hb4⟩
  case round =>
    obtain ⟨k, hk, rfl, hS, hX, hB⟩ := hrel
    by_cases hlt : k < n
    · obtain ⟨W', hrun, hS', hg', hsz'⟩ := DetS.push (W := wr.drew) hS k (by simp) ⟨now, b0, false⟩
      have c0 : wr.cell? ⟨w.heap.size + 3, 0, none⟩ = some (.map (some (w.heap.size + 2))) := hS.1.cell 0
      have q0 : wr.cell? ⟨w.heap.size, 0, none⟩ = some (.int .u64 b0) := hX.cell 0
      have l0 := hS.lt
      have l1 := hX.lt
      go_wp2_with (fail)
      go_region_with (fail)
      all_goals
        go_wp2
        refine ⟨⟨k + 1, by omega, by go_num, ?_, Blk.kept (W := wr.drew) hX hg' (fun e => by have := Option.some.inj e; omega), below_grown' hB.drew hB.size hg' (fun b e => by have := Option.some.inj e; omega)⟩, by simp [intOf]; omega⟩
        rw [List.replicate_succ']
        exact hS'
    · obtain rfl : k = n := by omega
      go_wp2
      go_ret2
      exact ⟨_, _, rfl, hS, hB, by omega, by omega⟩
/-! ### Hear -/
def mnI (a b : Int) : Int := if b < a then b else a
def heardP (s : Det) (p : Peer) (t : Int) : Peer := ⟨t, if p.sus then mnI (p.tmo + s.step) s.most else p.tmo, false⟩
def hearF (s : Det) (i t : Int) : Det × Int := match atP s i with
  | none => (s, 2)
  | some p => if t < s.now ∨ 1152921504606846976 < t then (s, 70) else ({ s with now := t, ps := s.ps.set i.toNat (heardP s p t) }, 0)
/-- Its numbers are small. -/
def DetOk (s : Det) : Prop := 0 ≤ s.step ∧ s.step ≤ 1152921504606846976 ∧ ∀ p ∈ s.ps, 0 ≤ p.tmo ∧ p.tmo ≤ 1152921504606846976
theorem atP_some {s : Det} {i : Int} {p : Peer} (h : atP s i = some p) : ∃ k : Nat, i = k ∧ ∃ hk : k < s.ps.length, s.ps[k] = p := by
  unfold atP at h
  split at h
  · obtain ⟨hk, hp⟩ := List.getElem?_eq_some_iff.1 h
    exact ⟨i.toNat, by omega, hk, hp⟩
  · cases h
theorem atP_nat (s : Det) (k : Nat) (hk : k < s.ps.length) : atP s (k : Int) = some s.ps[k] := by
  unfold atP
  rw [if_pos (by omega)]
  simp [hk]
set_option maxRecDepth 100000 in
set_option maxHeartbeats 4000000 in
theorem Hear.is (g M : Nat) (s : Det) (i t : Int) (w : World) (h : DetS w g M s) (ho : DetOk s) :
    Calls Try.prog 10 #[.pointer (some ⟨g, 0, none⟩), .int .i64 i, .int .u64 t] w fun e w' => e = .returned (.int .i64 (hearF s i t).2) ∧ DetS w' g M (hearF s i t).1 ∧ Grow2 g M w w' := by
  have c0 : w.cell? ⟨g, 0, none⟩ = some (.map (some M)) := h.1.cell 0
  have hlk := h.look i true
  cases hp : atP s i with
  | none =>
    have hf : hearF s i t = (s, 2) := by unfold hearF; rw [hp]
    rw [hf]
    rw [hp] at hlk
    simp only [Option.getD_none, Option.isSome_none, if_true, peerV, zP] at hlk
    have HF := Lib.hid hf; clear hf
    have HP := Lib.hid hp; clear hp
    go_enter Try.func10, Try.ntmps10
    go_wp2
    go_ret
    exact ⟨rfl, h.below ((Below.refl _ w).alloc (Nat.le_refl _) _), Grow2.of ((Below.refl _ w).alloc (Nat.le_refl _) _)⟩
  | some p =>
    obtain ⟨k, rfl, hk, hkp⟩ := atP_some hp
    rw [hp] at hlk
    simp only [Option.getD_some, Option.isSome_some, if_true, peerV] at hlk
    have hb := ho.2.2 p (hkp ▸ List.getElem_mem hk)
    obtain ⟨W1, hW1⟩ : ∃ W1, w.alloc (.cells #[.int .u64 p.last, .int .u64 p.tmo, .bool p.sus] 47) = W1 := ⟨_, rfl⟩
    have hb1 : Below w.heap.size w W1 := by rw [← hW1]; exact (Below.refl _ w).alloc (Nat.le_refl _) _
    have hS1 := h.below hb1
    have hX1 : Blk W1 w.heap.size 47 #[.int .u64 p.last, .int .u64 p.tmo, .bool p.sus] := by rw [← hW1]; exact Blk.new w _ _
    have hlt := h.lt
    have hmv := moves.is g M s t W1 hS1
    by_cases hbad : t < s.now ∨ 1152921504606846976 < t
    · have hf : hearF s k t = (s, 70) := by unfold hearF; rw [hp]; simp only; rw [if_pos hbad]
      have hm : movesF s t = (s, 70) := if_pos hbad
      rw [hf]
      rw [hm] at hmv
      have HF := Lib.hid hf; clear hf
      have HP := Lib.hid hp; clear hp
      have HM := Lib.hid hm; clear hm
      have HKP := Lib.hid hkp; clear hkp
      have HMV := Lib.hid hmv; clear hmv
      have HBAD := Lib.hid hbad; clear hbad
      have HW1 := Lib.hid hW1; clear hW1
      go_enter Try.func10, Try.ntmps10
      go_wp2_with (fail)
      rw [HW1.out]
      refine HMV.out.mono ?_
      rintro e w2 ⟨rfl, hs2, hg2⟩
      go_wp2
      go_ret
      exact ⟨rfl, hs2, (Grow2.of hb1).trans hg2⟩
    · have hf : hearF s k t = ({ s with now := t, ps := s.ps.set k (heardP s p t) }, 0) := by unfold hearF; rw [hp]; simp only; rw [if_neg hbad]; rfl
      have hm : movesF s t = ({ s with now := t }, 0) := if_neg hbad
      rw [hf]
      rw [hm] at hmv
      have HF := Lib.hid hf; clear hf
      have HP := Lib.hid hp; clear hp
      have HM := Lib.hid hm; clear hm
      have HKP := Lib.hid hkp; clear hkp
      have HMV := Lib.hid hmv; clear hmv
      have HBAD := Lib.hid hbad; clear hbad
      have HW1 := Lib.hid hW1; clear hW1
      have hst := ho.1
      have hst2 := ho.2.1
      cases hsus : p.sus with
      | false =>
        rw [hsus] at HW1 hX1 hlk
        have HSUS := Lib.hid hsus; clear hsus
        go_enter Try.func10, Try.ntmps10
        go_wp2_with (fail)
        rw [HW1.out]
        refine HMV.out.mono ?_
        rintro e w2 ⟨rfl, hs2, hg2⟩
        have hX2 := hg2.blk hX1 (by omega) (by omega)
        have x1 : w2.cell? ⟨w.heap.size, 1, none⟩ = some (.int .u64 p.tmo) := hX2.cell 1
        have x2 : w2.cell? ⟨w.heap.size, 2, none⟩ = some (.bool false) := hX2.cell 2
        have g0 : w2.cell? ⟨g, 0, none⟩ = some (.map (some M)) := hs2.1.cell 0
        obtain ⟨W', hrun, hS', hg', hsz'⟩ := DetS.update (W := w2.drew) hs2 k hk ⟨t, p.tmo, false⟩
        go_wp2_with (fail)
        refine (fun (key : Same_ ?X1) => ?main1) ?pf1
        case main1 =>
          go_region_with (fail)
          all_goals exact key.val
        refine Same_.mk ?_
        go_wp2
        go_ret
        refine ⟨rfl, ?_, ((Grow2.of hb1).trans hg2.drew).trans (Grow2.two hg')⟩
        have : heardP s p t = ⟨t, p.tmo, false⟩ := by unfold heardP; rw [HSUS.out]; rfl
        rw [this]
        exact hS'
      | true =>
        rw [hsus] at HW1 hX1 hlk
        have HSUS := Lib.hid hsus; clear hsus
        have hmw : IntKind.u64.wrap (p.tmo + s.step) = p.tmo + s.step := IntWalk.u64_in _ (by omega)
        go_enter Try.func10, Try.ntmps10
        go_wp2_with (fail)
        rw [HW1.out]
        refine HMV.out.mono ?_
        rintro e w2 ⟨rfl, hs2, hg2⟩
        have hX2 := hg2.blk hX1 (by omega) (by omega)
        have x1 : w2.cell? ⟨w.heap.size, 1, none⟩ = some (.int .u64 p.tmo) := hX2.cell 1
        have x2 : w2.cell? ⟨w.heap.size, 2, none⟩ = some (.bool true) := hX2.cell 2
        have f1 := hX2.frozen 1
        have g0 : w2.cell? ⟨g, 0, none⟩ = some (.map (some M)) := hs2.1.cell 0
        have g3 : w2.cell? ⟨g, 3, none⟩ = some (.int .u64 s.most) := hs2.1.cell 3
        have g4 : w2.cell? ⟨g, 4, none⟩ = some (.int .u64 s.step) := hs2.1.cell 4
        go_wp2_with (fail)
        refine (fun (key : Same_ ?X2) => ?main2) ?pf2
        case main2 =>
          go_region_with (fail)
          all_goals exact key.val
        refine Same_.mk ?_
        have hS3 : DetS (w2.setCell ⟨w.heap.size, 1, none⟩ (.int .u64 (if s.most < p.tmo + s.step then s.most else p.tmo + s.step))) g M { s with now := t } := hs2.far (by show w.heap.size ≠ g; omega) (by show w.heap.size ≠ M; omega) _
        have hX3 := hX2.set_ 1 (.int .u64 (if s.most < p.tmo + s.step then s.most else p.tmo + s.step))
        have hG3 : Grow2 g M w (w2.setCell ⟨w.heap.size, 1, none⟩ (.int .u64 (if s.most < p.tmo + s.step then s.most else p.tmo + s.step))) := by
          have h0 := (Grow2.of hb1).trans hg2
          exact ⟨h0.os, h0.tape, h0.output, by simp [World.setCell]; exact h0.size, fun j hj h1 h2 => (Below.heap_setCell w2 ⟨w.heap.size, 1, none⟩ _ j (by show j ≠ w.heap.size; omega)).trans (h0.block j hj h1 h2)⟩
        obtain ⟨V, hV⟩ : ∃ V, (if s.most < p.tmo + s.step then s.most else p.tmo + s.step) = V := ⟨_, rfl⟩
        rw [hV] at hS3 hX3 hG3 ⊢
        have HV := Lib.hid hV; clear hV
        obtain ⟨W3, hW3⟩ : ∃ W3, w2.setCell ⟨w.heap.size, 1, none⟩ (.int .u64 V) = W3 := ⟨_, rfl⟩
        rw [hW3] at hS3 hX3 hG3 ⊢
        clear hW3 x1 x2 f1 g0 g3 g4
        have x1 : W3.cell? ⟨w.heap.size, 1, none⟩ = some (.int .u64 V) := hX3.cell 1
        have g0 : W3.cell? ⟨g, 0, none⟩ = some (.map (some M)) := hS3.1.cell 0
        obtain ⟨W', hrun, hS', hg', hsz'⟩ := DetS.update (W := W3.drew.drew) hS3 k hk ⟨t, V, false⟩
        go_wp2_with (fail)
        refine (fun (key : Same_ ?X3) => ?main3) ?pf3
        case main3 =>
          go_region_with (fail)
          all_goals exact key.val
        refine Same_.mk ?_
        go_wp2
        go_ret
        refine ⟨rfl, ?_, Grow2.trans (B := W3.drew.drew) hG3.drew.drew (Grow2.two hg')⟩
        have : heardP s p t = ⟨t, V, false⟩ := by unfold heardP mnI; rw [HSUS.out, if_pos rfl, HV.out]
        rw [this]
        exact hS'
/-! ### Timeout -/
noncomputable def fieldsP : Array Field := match Try.prog.underlying 47 with | some (.struct fs) => fs | _ => #[]
theorem und_peer : Try.prog.underlying 47 = some (.struct fieldsP) := by kernel_rfl
theorem field_tmo (a b : Int) (c : Bool) (w : World) : (Instr.field 47 (.agg #[.int .u64 a, .int .u64 b, .bool c]) 1).run Try.prog w = .ok (.int .u64 b) w := by
  obtain ⟨f, hf, ht, ho⟩ : ∃ f : Field, fieldsP[1]? = some f ∧ f.type = 22 ∧ f.offset = 1 := ⟨fieldsP[1]'(by decide +kernel), by kernel_rfl, by kernel_rfl, by kernel_rfl⟩
  have hp : (part 22 #[.int .u64 a, .int .u64 b, .bool c] 1).run Try.prog w = .ok (.int .u64 b) w := run_part_plain w (by kernel_rfl) rfl
  unfold Instr.field
  simp only [Sem.run_bind, run_underlying und_peer, Result.andThen_ok, hf, asAgg, Sem.run_pure, ht, ho, hp]
set_option maxRecDepth 100000 in
set_option maxHeartbeats 2000000 in
theorem Timeout.is (g M : Nat) (s : Det) (i : Int) (w : World) (h : DetS w g M s) :
    Calls Try.prog 13 #[.pointer (some ⟨g, 0, none⟩), .int .i64 i] w fun e w' => e = .returned (.int .u64 ((atP s i).getD zP).tmo) ∧ w = w' := by
  have c0 : w.cell? ⟨g, 0, none⟩ = some (.map (some M)) := h.1.cell 0
  have hlk := h.look i false
  have hfl := field_tmo
  obtain ⟨p, hp⟩ : ∃ p, (atP s i).getD zP = p := ⟨_, rfl⟩
  rw [hp] at hlk ⊢
  simp only [peerV, Bool.false_eq_true, if_false] at hlk
  clear hp
  go_enter Try.func13, Try.ntmps13
  go_wp2
  go_ret
  exact ⟨rfl, rfl⟩
end Go.Proofs.Ytkifmdfmbmbdaaa.G
