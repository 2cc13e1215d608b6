/- Without hurting what is taken is what was sent. -/
import Derived.Test.YthmeakkpmielmaaFliD
import Derived.Test.YthmeakkpmielmaaWEqStruct
import Derived.OpenShut
import Derived.Deep.DeepCutAuto
namespace Go.Proofs.Ythmeakkpmielmaa.R
open Go.RowKit Go.Proofs.YthmeakkpmielmaaW.PrintWords Go.Proofs.YthmeakkpmielmaaW.PrintMore Go.Proofs.Ythmeakkpmielmaa.P Go.Proofs.Ythmeakkpmielmaa.G
set_option linter.unusedVariables false
set_option linter.unusedSimpArgs false
attribute [local go_sem] Oper.semAt_some max2_int min2_int max_two min_two

/-- An array of 200 notes. -/
def cellN (x : S35) (c : Nat) : Value := if c = 0 then .int .u32 x.f0 else if c = 1 then .int .i64 x.f1 else .string x.f2
def sentC (f : Nat → S35) : Array Value := ((List.range 600).map fun i => cellN (f (i / 3)) (i % 3)).toArray
theorem sentC_get (f : Nat → S35) (i : Nat) (h : i < 600) : (sentC f)[i]? = some (cellN (f (i / 3)) (i % 3)) := by
  unfold sentC
  simp [h]
theorem sentC_out (f : Nat → S35) (i : Nat) (h : ¬ i < 600) : (sentC f)[i]? = none := by unfold sentC; simp; omega
theorem sentC_at (f : Nat → S35) (j : Nat) (h : j < 200) : (sentC f)[j * 3]? = some (.int .u32 (f j).f0) ∧ (sentC f)[j * 3 + 1]? = some (.int .i64 (f j).f1) ∧ (sentC f)[j * 3 + 2]? = some (.string (f j).f2) := by
  rw [sentC_get f _ (by omega), sentC_get f _ (by omega), sentC_get f _ (by omega), show j * 3 / 3 = j by omega, show (j * 3 + 1) / 3 = j by omega, show (j * 3 + 2) / 3 = j by omega, show j * 3 % 3 = 0 by omega, show (j * 3 + 1) % 3 = 1 by omega, show (j * 3 + 2) % 3 = 2 by omega]
  exact ⟨rfl, rfl, rfl⟩
def putF (f : Nat → S35) (j : Nat) (x : S35) : Nat → S35 := fun i => if i = j then x else f i
theorem sentC_set (f : Nat → S35) (j : Nat) (h : j < 200) (x : S35) : (((sentC f).setIfInBounds (j * 3) (.int .u32 x.f0)).setIfInBounds (j * 3 + 1) (.int .i64 x.f1)).setIfInBounds (j * 3 + 2) (.string x.f2) = sentC (putF f j x) := by
  have hsz : (sentC f).size = 600 := by unfold sentC; simp
  apply Array.ext_getElem?
  intro i
  rw [Array.getElem?_setIfInBounds, Array.getElem?_setIfInBounds, Array.getElem?_setIfInBounds]
  simp only [Array.size_setIfInBounds, hsz]
  by_cases hi : i < 600
  · rw [sentC_get _ i hi, sentC_get _ i hi]
    unfold putF
    by_cases e : i / 3 = j
    · rw [if_pos e]
      have : i = j * 3 ∨ i = j * 3 + 1 ∨ i = j * 3 + 2 := by omega
      rcases this with rfl | rfl | rfl
      · rw [if_neg (by omega), if_neg (by omega), if_pos rfl, if_pos (by omega), show j * 3 % 3 = 0 by omega]; rfl
      · rw [if_neg (by omega), if_pos rfl, if_pos (by omega), show (j * 3 + 1) % 3 = 1 by omega]; rfl
      · rw [if_pos rfl, if_pos (by omega), show (j * 3 + 2) % 3 = 2 by omega]; rfl
    · rw [if_neg e, if_neg (by omega), if_neg (by omega), if_neg (by omega)]
  · rw [sentC_out _ i hi, sentC_out _ i hi]
    rw [if_neg (by omega), if_neg (by omega), if_neg (by omega)]
/-- What holds behind each act. -/
structure SentI (k : Nat) (s : Fl) (f : Nat → S35) : Prop where
  n0 : 0 ≤ s.n
  nk : s.n ≤ k
  len : s.l.length ≤ k
  num : ∀ x ∈ s.l, 1 ≤ x.f0 ∧ x.f0 ≤ s.n
  is : ∀ x ∈ s.l, f x.f0.toNat = x
theorem SentI.nil (f : Nat → S35) : SentI 0 ⟨0, []⟩ f := ⟨Int.le_refl _, Int.le_refl _, Nat.le_refl _, (by simp), (by simp)⟩
theorem SentI.up {k : Nat} {s : Fl} {f : Nat → S35} (h : SentI k s f) : SentI (k + 1) s f := ⟨h.n0, by have := h.nk; omega, by have := h.len; omega, h.num, h.is⟩
/-- A sending: either refused, or the note is the last one. -/
theorem SentI.send {k : Nat} {s : Fl} {f : Nat → S35} (h : SentI k s f) (hk : k < 60) (t : Int) (x : ByteArray) :
    (∃ e, e ≠ 0 ∧ sendF s t x = (s, 0, e)) ∨ (∃ n : Nat, (n : Int) = s.n + 1 ∧ 0 < n ∧ n ≤ 60 ∧ sendF s t x = ((⟨(n : Int), s.l ++ [⟨(n : Int), t, x⟩]⟩ : Fl), (n : Int), (0 : Int)) ∧ SentI (k + 1) ⟨n, s.l ++ [⟨n, t, x⟩]⟩ (putF f n ⟨n, t, x⟩)) := by
  have hn := h.n0
  have hnk := h.nk
  have hl := h.len
  unfold sendF
  split
  · exact .inl ⟨2, by decide, rfl⟩
  · split
    · exact .inl ⟨30, by decide, rfl⟩
    · obtain ⟨m, hm⟩ := Int.eq_ofNat_of_zero_le hn
      have e : IntKind.u32.wrap (s.n + 1) = ((m + 1 : Nat) : Int) := by rw [IntWalk.u32_in _ (by omega)]; omega
      rw [e]
      refine .inr ⟨m + 1, by omega, by omega, by omega, rfl, ⟨by show (0 : Int) ≤ ((m + 1 : Nat) : Int); omega, by show ((m + 1 : Nat) : Int) ≤ _; omega, by simp; omega, ?_, ?_⟩⟩
      · intro y hy
        rw [List.mem_append, List.mem_singleton] at hy
        rcases hy with hy | rfl
        · have := h.num y hy; show 1 ≤ y.f0 ∧ y.f0 ≤ ((m + 1 : Nat) : Int); omega
        · show 1 ≤ ((m + 1 : Nat) : Int) ∧ ((m + 1 : Nat) : Int) ≤ ((m + 1 : Nat) : Int); omega
      · intro y hy
        unfold putF
        rw [List.mem_append, List.mem_singleton] at hy
        rcases hy with hy | rfl
        · have := h.num y hy
          rw [if_neg (by omega)]
          exact h.is y hy
        · rw [if_pos (by simp)]
theorem mem_rest {l : List S35} {j : Nat} {x : S35} (h : x ∈ l.take j ++ l.drop (j + 1)) : x ∈ l := by
  rcases List.mem_append.1 h with h | h
  · exact List.mem_of_mem_take h
  · exact List.mem_of_mem_drop h
theorem SentI.rest {k : Nat} {s : Fl} {f : Nat → S35} (h : SentI k s f) (j : Nat) (hj : j < s.l.length) : SentI (k + 1) ⟨s.n, s.l.take j ++ s.l.drop (j + 1)⟩ f :=
  ⟨h.n0, by have := h.nk; show s.n ≤ _; omega, by have := h.len; simp; omega, fun x hx => h.num x (mem_rest hx), fun x hx => h.is x (mem_rest hx)⟩
theorem SentI.drop {k : Nat} {s : Fl} {f : Nat → S35} (h : SentI k s f) (t : Int) : SentI (k + 1) (dropF s t).1 f := by
  unfold dropF
  by_cases ho : 0 ≤ t ∧ t < s.l.length
  · obtain ⟨j, rfl⟩ := Int.eq_ofNat_of_zero_le ho.1
    have hj : j < s.l.length := by omega
    rw [takeF_in s j hj]
    exact h.rest j hj
  · rw [takeF_out s t ho]
    exact h.up
theorem FlS.put3 {W : World} {g m : Nat} {s : Fl} {cs : Array Value} (hS : FlS W g s) (hM : Blk W m 36 cs) (i j k : Nat) (u v x : Value) : FlS (((W.setCell ⟨m, i, none⟩ u).setCell ⟨m, j, none⟩ v).setCell ⟨m, k, none⟩ x) g s :=
  hS.far hM (by decide) (by decide) (grown_trans (grown_trans (grown_set W ⟨m, i, none⟩ u) (grown_set _ ⟨m, j, none⟩ v)) (grown_set _ ⟨m, k, none⟩ x))
theorem sent_put {w W : World} {g m n : Nat} {s : Fl} {f : Nat → S35} (hS : FlS W g s) (hM : Blk W m 36 (sentC f)) (hn : n < 200) (x : S35) (hB : Below w.heap.size w W) (hm : w.heap.size ≤ m) (o : Obj) :
    FlS (((((W.alloc o).setCell ⟨m, n * 3, none⟩ (.int .u32 x.f0)).setCell ⟨m, n * 3 + 1, none⟩ (.int .i64 x.f1)).setCell ⟨m, n * 3 + 2, none⟩ (.string x.f2)).drew) g s ∧
    Blk (((((W.alloc o).setCell ⟨m, n * 3, none⟩ (.int .u32 x.f0)).setCell ⟨m, n * 3 + 1, none⟩ (.int .i64 x.f1)).setCell ⟨m, n * 3 + 2, none⟩ (.string x.f2)).drew) m 36 (sentC (putF f n x)) ∧
    Below w.heap.size w (((((W.alloc o).setCell ⟨m, n * 3, none⟩ (.int .u32 x.f0)).setCell ⟨m, n * 3 + 1, none⟩ (.int .i64 x.f1)).setCell ⟨m, n * 3 + 2, none⟩ (.string x.f2)).drew) := by
  have hM1 := hM.alloc o
  have hS1 := hS.below ((Below.refl _ W).alloc (Nat.le_refl _) o)
  refine ⟨FlS.put3 hS1 hM1 _ _ _ _ _ _, ?_, ?_⟩
  · have := ((hM1.set_ (n * 3) (.int .u32 x.f0)).set_ (n * 3 + 1) (.int .i64 x.f1)).set_ (n * 3 + 2) (.string x.f2)
    rw [sentC_set f n hn x] at this
    exact this
  · exact ((((hB.alloc hB.size o).setCell (p := ⟨m, n * 3, none⟩) hm _).setCell (p := ⟨m, n * 3 + 1, none⟩) hm _).setCell (p := ⟨m, n * 3 + 2, none⟩) hm _).drew
theorem sent_put0 {w W : World} {g m n : Nat} {s : Fl} {f : Nat → S35} (hS : FlS W g s) (hM : Blk W m 36 (sentC f)) (hn : n < 200) (x : S35) (hB : Below w.heap.size w W) (hm : w.heap.size ≤ m) :
    FlS ((((W.setCell ⟨m, n * 3, none⟩ (.int .u32 x.f0)).setCell ⟨m, n * 3 + 1, none⟩ (.int .i64 x.f1)).setCell ⟨m, n * 3 + 2, none⟩ (.string x.f2)).drew) g s ∧
    Blk ((((W.setCell ⟨m, n * 3, none⟩ (.int .u32 x.f0)).setCell ⟨m, n * 3 + 1, none⟩ (.int .i64 x.f1)).setCell ⟨m, n * 3 + 2, none⟩ (.string x.f2)).drew) m 36 (sentC (putF f n x)) ∧
    Below w.heap.size w ((((W.setCell ⟨m, n * 3, none⟩ (.int .u32 x.f0)).setCell ⟨m, n * 3 + 1, none⟩ (.int .i64 x.f1)).setCell ⟨m, n * 3 + 2, none⟩ (.string x.f2)).drew) := by
  refine ⟨FlS.put3 hS hM _ _ _ _ _ _, ?_, ?_⟩
  · have := ((hM.set_ (n * 3) (.int .u32 x.f0)).set_ (n * 3 + 1) (.int .i64 x.f1)).set_ (n * 3 + 2) (.string x.f2)
    rw [sentC_set f n hn x] at this
    exact this
  · exact (((hB.setCell (p := ⟨m, n * 3, none⟩) hm _).setCell (p := ⟨m, n * 3 + 1, none⟩) hm _).setCell (p := ⟨m, n * 3 + 2, none⟩) hm _).drew
theorem sent_info : (Try.prog.info? 36).map (fun i => i.zero) = some (some (.agg (sentC fun _ => z35))) := by kernel_rfl
theorem sent_zero (w : World) : (zeroValue 36).run Try.prog w = .ok (.agg (sentC fun _ => z35)) w := by
  obtain ⟨i, hi, hz⟩ := Option.map_eq_some_iff.1 sent_info
  simp [zeroValue, typeInfo, go_sem, hi, hz]
set_option maxRecDepth 100000 in
set_option maxHeartbeats 8000000 in
theorem FlightSent_fin (A0 : Option Addr) (c0 : Nat) (l0 : List S38) (w : World) (hr0 : Kd.C k38 w A0 l0.length l0) (hc0 : l0.length ≤ c0) (_hm0 : l0.length ≤ maxLen) (_hw0 : ∀ z ∈ l0, (Lit.int .i64 z.f0).wf = true ∧ (Lit.int .i64 z.f1).wf = true ∧ (Lit.int .i64 z.f2).wf = true ∧ (Lit.int .u32 z.f3).wf = true ∧ z.f4.size ≤ maxLen) :
    Calls Try.prog 4 #[.slice A0 l0.length c0] w fun e w' => e = .returned (.bool true) ∧ Below w.heap.size w w' := by
  unfold maxLen at _hm0
  go_enter Try.func4, Try.ntmps4
  go_wp2_with (fail)
  refine (shown.is _).mono ?_
  rintro e w1 ⟨rfl, hb1⟩
  go_wp2_with (fail)
  refine (New.is _).mono ?_
  rintro e w2 ⟨rfl, hs2, hb2⟩
  have hb12 := G.below_then hb1 hb1.size hb2
  have hg0 : w.heap.size ≤ w1.heap.size := hb1.size
  obtain ⟨g, hg⟩ : ∃ g, w1.heap.size = g := ⟨_, rfl⟩
  rw [hg] at hs2 hg0 ⊢
  clear hb2 hb1 hg
  have hr : ∀ b, (some g : Option Nat) = some b → w.heap.size ≤ b := fun b e => by cases e; exact hg0
  have hmz := sent_zero
  have hB2 : Below w.heap.size w (w2.alloc (.cells (sentC fun _ => z35) 36)) := hb12.alloc hb12.size _
  have hm2 : Blk (w2.alloc (.cells (sentC fun _ => z35) 36)) w2.heap.size 36 (sentC fun _ => z35) := Blk.new _ _ _
  have hf2 : FlS (w2.alloc (.cells (sentC fun _ => z35) 36)) g ⟨0, []⟩ := hs2.below ((Below.refl _ w2).alloc (Nat.le_refl _) _)
  have hgm : w.heap.size ≤ w2.heap.size := hb12.size
  obtain ⟨W0, hW0⟩ : ∃ W0, w2.alloc (.cells (sentC fun _ => z35) 36) = W0 := ⟨_, rfl⟩
  obtain ⟨m, hm⟩ : ∃ m, w2.heap.size = m := ⟨_, rfl⟩
  rw [hm] at hm2 hgm
  rw [hW0] at hB2 hm2 hf2
  have HMZ := Lib.hid hmz
  go_wp2_with (fail)
  have hgne : g ≠ m := by
    have := hs2.lt
    omega
  go_loopw [6] (fun i wr => ∃ (k : Nat) (s : Fl) (f : Nat → S35), k ≤ l0.length ∧ k ≤ 60 ∧ i = .int .i64 k ∧ FlS wr g s ∧ Blk wr m 36 (sentC f) ∧ SentI k s f ∧ Below w.heap.size w wr) (fun i _ => 60 - (intOf i).toNat)
  case atStart => exact ⟨0, _, _, Nat.zero_le _, Nat.zero_le _, rfl, hf2, hm2, SentI.nil _, hB2⟩
  case round =>
    obtain ⟨k, s, f, hk, hk60, rfl, hS, hMt, hI, hB⟩ := hrel
    by_cases hlt : k < l0.length ∧ k < 60
    · obtain ⟨hl1, hl2⟩ := hlt
      obtain ⟨ad, hAd, x0, x1, x2, x3, x4⟩ := at_T38 (Kd.C_below hr0 hB) (k : Int) (by omega) (by omega)
      rw [rd_get_38 l0 k hl1] at x0 x1 x2 x3 x4
      simp only [Int.toNat_natCast] at x0 x1 x2 x3 x4
      subst hAd
      have hw := _hw0 _ (List.getElem_mem hl1)
      obtain ⟨x, hx⟩ : ∃ x, l0[k] = x := ⟨_, rfl⟩
      rw [hx] at x0 x1 x2 x3 x4 hw
      obtain ⟨W1, hW1⟩ : ∃ W1, wr.alloc (.cells #[.int .i64 x.f0, .int .i64 x.f1, .int .i64 x.f2, .int .u32 x.f3, .string x.f4] 38) = W1 := ⟨_, rfl⟩
      obtain ⟨B, hBe⟩ : ∃ B, wr.heap.size = B := ⟨_, rfl⟩
      have hb1 : Below wr.heap.size wr W1 := by rw [← hW1]; exact (Below.refl _ wr).alloc (Nat.le_refl _) _
      have hBx : Blk W1 B 38 #[.int .i64 x.f0, .int .i64 x.f1, .int .i64 x.f2, .int .u32 x.f3, .string x.f4] := by rw [← hW1, ← hBe]; exact Blk.new _ _ _
      have hS1 := hS.below hb1
      have hM1 := hMt.callee hb1
      have hB1 := G.below_then hB hB.size hb1
      have hBm : B ≠ m := by have := hMt.lt; omega
      have hBg : B ≠ g := by have := hS.lt; omega
      have hB0 : w.heap.size ≤ B := by have := hB.size; omega
      have y0 : W1.cell? ⟨B, 0, none⟩ = some (.int .i64 x.f0) := hBx.cell 0
      have y1 : W1.cell? ⟨B, 1, none⟩ = some (.int .i64 x.f1) := hBx.cell 1
      have y2 : W1.cell? ⟨B, 2, none⟩ = some (.int .i64 x.f2) := hBx.cell 2
      have y3 : W1.cell? ⟨B, 3, none⟩ = some (.int .u32 x.f3) := hBx.cell 3
      have y4 : W1.cell? ⟨B, 4, none⟩ = some (.string x.f4) := hBx.cell 4
      obtain ⟨M, hM⟩ : ∃ M, (IntKind.u64.wrap x.f0).tmod 6 = M := ⟨_, rfl⟩
      have hMr : M = 0 ∨ M = 1 ∨ M = 2 ∨ M = 3 ∨ M = 4 ∨ M = 5 := by
        have h0 : 0 ≤ IntKind.u64.wrap x.f0 := by rw [IntKind.wrap_u64]; omega
        rw [IntWalk.rem_in _ _ h0] at hM
        omega
      have HX := Lib.hid hx; clear hx
      have hMr' : (M = 0 ∨ M = 1) ∨ M = 2 ∨ M = 3 ∨ M = 4 ∨ M = 5 := by omega
      clear hMr
      rcases hMr' with h01 | rfl | rfl | rfl | rfl
      · rcases h01 with rfl | rfl
        all_goals
          have HT := Lib.hid (fun W => text.is x W hw.2.2.2.2)
          have hb3 : Below W1.heap.size W1 (W1.alloc (.cells #[.int .i64 x.f0, .int .i64 x.f1, .int .i64 x.f2, .int .u32 x.f3, .string x.f4] 38)) := (Below.refl _ W1).alloc (Nat.le_refl _) _
          have hS3 := hS1.below hb3
          have hB3 := G.below_then hB1 hB1.size hb3
          have hM3 := hM1.callee hb3
          have hB3x := hBx.callee hb3
          have z1 : (W1.alloc (.cells #[.int .i64 x.f0, .int .i64 x.f1, .int .i64 x.f2, .int .u32 x.f3, .string x.f4] 38)).cell? ⟨B, 1, none⟩ = some (.int .i64 x.f1) := hB3x.cell 1
          have hsnd := Send.is g s x.f1 (cutS x.f4) (W1.alloc (.cells #[.int .i64 x.f0, .int .i64 x.f1, .int .i64 x.f2, .int .u32 x.f3, .string x.f4] 38)).drew (show FlS (W1.alloc (.cells #[.int .i64 x.f0, .int .i64 x.f1, .int .i64 x.f2, .int .u32 x.f3, .string x.f4] 38)).drew g s from hS3) (by have := hI.len; omega)
          obtain ⟨s4, n4, e4, hs4⟩ : ∃ s4 n4 e4, sendF s x.f1 (cutS x.f4) = (s4, n4, e4) := ⟨_, _, _, rfl⟩
          have hsd := hI.send hl2 x.f1 (cutS x.f4)
          rw [hs4] at hsnd hsd
          have HSND := Lib.hid hsnd; clear hsnd
          have HSD := Lib.hid hsd; clear hsd
          have HS4 := Lib.hid hs4; clear hs4
          go_upto_region 11 with (fail)
          go_cut [8, 9] (fun s8 s9 wx => s8 = .int .u32 n4 ∧ s9 = .int .i64 e4 ∧ FlS wx g s4 ∧ Blk wx m 36 (sentC f) ∧ Blk wx B 38 #[.int .i64 x.f0, .int .i64 x.f1, .int .i64 x.f2, .int .u32 x.f3, .string x.f4] ∧ Below w.heap.size w wx)
          case first =>
            go_region_with (first
              | (go_at_call 15; (with_reducible refine (HT.out _).mono ?_); rintro e w3 ⟨rfl, rfl⟩)
              | (go_at_call 12; (refine HSND.out.mono ?_); rintro e w4 ⟨rfl, hs4, hg4⟩))
            all_goals
              go_wp2_with (fail)
              go_meet
              exact ⟨rfl, rfl, hs4, (show Blk (W1.alloc (.cells #[.int .i64 x.f0, .int .i64 x.f1, .int .i64 x.f2, .int .u32 x.f3, .string x.f4] 38)).drew m _ _ from hM3).kept hg4 (fun e => hgne (Option.some.inj e).symm), (show Blk (W1.alloc (.cells #[.int .i64 x.f0, .int .i64 x.f1, .int .i64 x.f2, .int .u32 x.f3, .string x.f4] 38)).drew B _ _ from hB3x).kept hg4 (fun e => hBg (Option.some.inj e)), below_grown' hB3.drew hB3.size hg4 hr⟩
          case rest =>
            obtain ⟨rfl, rfl, hs4, hM4, hX4, hB4⟩ := hcut
            rcases HSD.out with ⟨e5, he5, hq⟩ | ⟨n, hn, hn0, hn60, hq, hI4⟩
            · simp only [Prod.mk.injEq] at hq
              obtain ⟨rfl, rfl, rfl⟩ := hq
              have hd4 : (e4 == 0) = false := by simpa using he5
              have HE4 := Lib.hid he5; clear he5
              go_wp2
              exact ⟨⟨k + 1, s4, f, by omega, by omega, by go_num, hs4, hM4, hI.up, hB4⟩, by simp [intOf]; omega⟩
            · simp only [Prod.mk.injEq] at hq
              obtain ⟨rfl, rfl, rfl⟩ := hq
              have HN := Lib.hid hn; clear hn
              have hn200 : n < 200 := by omega
              have hd4 : decide ((n : Int) < 200) = true := by simp; omega
              obtain ⟨hS5, hM5, hB5⟩ := sent_put hs4 hM4 hn200 ⟨(n : Int), x.f1, cutS x.f4⟩ hB4 hgm (.cells #[.int .i64 x.f0, .int .i64 x.f1, .int .i64 x.f2, .int .u32 x.f3, .string x.f4] 38)
              have v0 : wc.cell? ⟨B, 0, none⟩ = some (.int .i64 x.f0) := hX4.cell 0
              have v1 : wc.cell? ⟨B, 1, none⟩ = some (.int .i64 x.f1) := hX4.cell 1
              have v2 : wc.cell? ⟨B, 2, none⟩ = some (.int .i64 x.f2) := hX4.cell 2
              have v3 : wc.cell? ⟨B, 3, none⟩ = some (.int .u32 x.f3) := hX4.cell 3
              have v4 : wc.cell? ⟨B, 4, none⟩ = some (.string x.f4) := hX4.cell 4
              have hX4b := hX4.alloc (.cells #[.int .i64 x.f0, .int .i64 x.f1, .int .i64 x.f2, .int .u32 x.f3, .string x.f4] 38)
              have hM4b := hM4.alloc (.cells #[.int .i64 x.f0, .int .i64 x.f1, .int .i64 x.f2, .int .u32 x.f3, .string x.f4] 38)
              have v1b : (wc.alloc (.cells #[.int .i64 x.f0, .int .i64 x.f1, .int .i64 x.f2, .int .u32 x.f3, .string x.f4] 38)).cell? ⟨B, 1, none⟩ = some (.int .i64 x.f1) := hX4b.cell 1
              obtain ⟨a0, a1, a2⟩ := sentC_at f n hn200
              have p0 : (wc.alloc (.cells #[.int .i64 x.f0, .int .i64 x.f1, .int .i64 x.f2, .int .u32 x.f3, .string x.f4] 38)).cell? ⟨m, n * 3, none⟩ = some (.int .u32 (f n).f0) := (hM4b.cell _).trans a0
              have p1 : (wc.alloc (.cells #[.int .i64 x.f0, .int .i64 x.f1, .int .i64 x.f2, .int .u32 x.f3, .string x.f4] 38)).cell? ⟨m, n * 3 + 1, none⟩ = some (.int .i64 (f n).f1) := (hM4b.cell _).trans a1
              have p2 : (wc.alloc (.cells #[.int .i64 x.f0, .int .i64 x.f1, .int .i64 x.f2, .int .u32 x.f3, .string x.f4] 38)).cell? ⟨m, n * 3 + 2, none⟩ = some (.string (f n).f2) := (hM4b.cell _).trans a2
              have f0 := hM4b.frozen (n * 3)
              have f1 := hM4b.frozen (n * 3 + 1)
              have f2 := hM4b.frozen (n * 3 + 2)
              clear a0 a1 a2
              go_wp2_with (fail)
              go_region_with (first
                | (go_at_call 15; (with_reducible refine (HT.out _).mono ?_); rintro e w5 ⟨rfl, rfl⟩))
              all_goals
                go_wp2
                exact ⟨⟨k + 1, _, _, by omega, by omega, by go_num, hS5, hM5, hI4, hB5⟩, by simp [intOf]; omega⟩
      · by_cases ho : 0 ≤ x.f1 ∧ x.f1 < s.l.length
        · obtain ⟨j, hj1⟩ := Int.eq_ofNat_of_zero_le ho.1
          have hj : j < s.l.length := by omega
          have htk := Take.is g s x.f1 W1 hS1 (by have := hI.len; omega)
          rw [hj1, takeF_in s j hj] at htk
          have hI4 := hI.rest j hj
          have hn := hI.num _ (List.getElem_mem hj)
          have his := hI.is _ (List.getElem_mem hj)
          have hnk := hI.nk
          obtain ⟨y, hy⟩ : ∃ y, s.l[j] = y := ⟨_, rfl⟩
          rw [hy] at htk hn his
          obtain ⟨J, hJ⟩ := Int.eq_ofNat_of_zero_le (show 0 ≤ y.f0 by omega)
          have hJl : J < 200 := by omega
          have hJy : (⟨(J : Int), y.f1, y.f2⟩ : S35) = y := by rw [← hJ]
          rw [hJ] at his hn
          rw [Int.toNat_natCast] at his
          unfold noteV at htk
          rw [hJ] at htk
          rw [hj1] at y1
          have d1 : decide ((200 : Int) ≤ (J : Int)) = false := by simp; omega
          have HTK := Lib.hid htk; clear htk
          have HY := Lib.hid hy; clear hy
          have HJ := Lib.hid hJ; clear hJ
          have HJ1 := Lib.hid hj1; clear hj1
          have HO := Lib.hid ho; clear ho
          have HJY := Lib.hid hJy; clear hJy
          have HIS := Lib.hid his; clear his
          go_wp2_with (fail)
          refine HTK.out.mono ?_
          rintro e w4 ⟨rfl, hs4, hg4⟩
          have hM4 := hM1.kept hg4 (fun e => hgne (Option.some.inj e).symm)
          have hB4 := below_grown' hB1 hB1.size hg4 hr
          have hm4 := hM4.lt
          have hM5 := hM4.alloc (.cells #[.int .u32 J, .int .i64 y.f1, .string y.f2] 35)
          have hs5 := hs4.below ((Below.refl _ w4).alloc (Nat.le_refl _) (.cells #[.int .u32 J, .int .i64 y.f1, .string y.f2] 35))
          obtain ⟨a0, a1, a2⟩ := sentC_at f J hJl
          rw [HIS.out] at a0 a1 a2
          rw [← HJY.out] at a0
          have p0 : (w4.alloc (.cells #[.int .u32 J, .int .i64 y.f1, .string y.f2] 35)).cell? ⟨m, J * 3, none⟩ = some (.int .u32 J) := (hM5.cell _).trans a0
          have p1 : (w4.alloc (.cells #[.int .u32 J, .int .i64 y.f1, .string y.f2] 35)).cell? ⟨m, J * 3 + 1, none⟩ = some (.int .i64 y.f1) := (hM5.cell _).trans a1
          have p2 : (w4.alloc (.cells #[.int .u32 J, .int .i64 y.f1, .string y.f2] 35)).cell? ⟨m, J * 3 + 2, none⟩ = some (.string y.f2) := (hM5.cell _).trans a2
          clear a0 a1 a2
          go_wp2_with (fail)
          go_quiet (fail)
          go_wp2
          exact ⟨⟨k + 1, ⟨s.n, s.l.take j ++ s.l.drop (j + 1)⟩, f, by omega, by omega, by go_num, hs5, hM5, hI4, below_drewN (hB4.alloc hB4.size _) nq⟩, by simp [intOf]; omega⟩
        · have htk := Take.out g s x.f1 W1 hS1 ho
          have HTK := Lib.hid htk; clear htk
          have HO := Lib.hid ho; clear ho
          unfold noteV z35 at HTK
          go_wp2_with (fail)
          refine HTK.out.mono ?_
          rintro e w4 ⟨rfl, hs4, hg4⟩
          have hM4 := hM1.kept hg4 (fun e => hgne (Option.some.inj e).symm)
          have hB4 := below_grown' hB1 hB1.size hg4 hr
          have hm4 := hM4.lt
          have hs5 := hs4.below ((Below.refl _ w4).alloc (Nat.le_refl _) (.cells #[.int .u32 0, .int .i64 0, .string ⟨#[]⟩] 35))
          have hM5 := hM4.alloc (.cells #[.int .u32 0, .int .i64 0, .string ⟨#[]⟩] 35)
          go_wp2_with (fail)
          go_quiet (fail)
          go_wp2
          exact ⟨⟨k + 1, s, f, by omega, by omega, by go_num, hs5, hM5, hI.up, below_drewN (hB4.alloc hB4.size _) nq⟩, by simp [intOf]; omega⟩
      · have hdr := Drop.is g s x.f1 W1 hS1 (by have := hI.len; omega)
        have hI4 := hI.drop x.f1
        obtain ⟨s4, e4, hs4⟩ : ∃ s4 e4, dropF s x.f1 = (s4, e4) := ⟨_, _, rfl⟩
        rw [hs4] at hI4 hdr
        have HDR := Lib.hid hdr; clear hdr
        have HS4 := Lib.hid hs4; clear hs4
        go_wp2_with (fail)
        refine HDR.out.mono ?_
        rintro e w4 ⟨rfl, hs4, hg4⟩
        have hM4 := hM1.kept hg4 (fun e => hgne (Option.some.inj e).symm)
        go_wp2
        exact ⟨⟨k + 1, s4, f, by omega, by omega, by go_num, hs4, hM4, hI4, below_grown' hB1 hB1.size hg4 hr⟩, by simp [intOf]; omega⟩
      · have HA := Lib.hid (All.is g s W1 hS1 (by have := hI.len; omega))
        by_cases ho : 0 ≤ x.f1 ∧ x.f1 < s.l.length
        · obtain ⟨j, hj1⟩ := Int.eq_ofNat_of_zero_le ho.1
          have hj : j < s.l.length := by omega
          rw [hj1] at y1 hBx
          have HJ1 := Lib.hid hj1; clear hj1
          have HO := Lib.hid ho; clear ho
          obtain ⟨y, hy⟩ : ∃ y, s.l[j] = y := ⟨_, rfl⟩
          obtain ⟨s4, n4, e4, hs4⟩ : ∃ s4 n4 e4, sendF s y.f1 y.f2 = (s4, n4, e4) := ⟨_, _, _, rfl⟩
          have hsd := hI.send hl2 y.f1 y.f2
          have hcp := copyF_in s j hj
          rw [hy] at hcp
          rw [hs4] at hcp hsd
          have HSD := Lib.hid hsd; clear hsd
          have HS4 := Lib.hid hs4; clear hs4
          have HCP := Lib.hid hcp; clear hcp
          have HY := Lib.hid hy; clear hy
          have hlen := hI.len
          go_wp2_with (fail)
          refine HA.out.mono ?_
          rintro e w3 ⟨v, rfl, hR3, hb3⟩
          have hs3 := hS1.below hb3
          have hM3 := hM1.callee hb3
          have hX3 := hBx.callee hb3
          have q1 : w3.cell? ⟨B, 1, none⟩ = some (.int .i64 j) := hX3.cell 1
          have hB3 := G.below_then hB1 hB1.size hb3
          obtain ⟨A3, c3, rfl, hlc3, hC3⟩ := Kd.R_reads hR3
          go_wp2_with (fail)
          refine (Copy.is g _ _ _ hs3 (by omega)).mono ?_
          rw [HCP.out]
          rintro e w4 ⟨rfl, hs4, hg4⟩
          have hR4 := (RowN.of hR3).over hs3 hg4
          have hM4 := hM3.kept hg4 (fun e => hgne (Option.some.inj e).symm)
          have hX4 := hX3.kept hg4 (fun e => hBg (Option.some.inj e))
          have hB4 := below_grown' hB3 hB3.size hg4 hr
          obtain ⟨A4, c4, hv4, hlc4, hC4⟩ := Kd.R_reads hR4
          obtain ⟨rfl, rfl⟩ : A3 = A4 ∧ c3 = c4 := by simpa using hv4
          obtain ⟨ae, hAe, r0, r1, r2⟩ := at_T35 hC4 (j : Int) (by omega) (by omega)
          rw [rd_get_35 s.l j hj, HY.out] at r0 r1 r2
          simp only [Int.toNat_natCast] at r0 r1 r2
          subst hAe
          have q1 : w4.cell? ⟨B, 1, none⟩ = some (.int .i64 j) := hX4.cell 1
          have hj0 : decide ((0 : Int) ≤ (j : Int)) = true := by simp
          have hjl : decide ((j : Int) < (s.l.length : Int)) = true := by simp; omega
          rcases HSD.out with ⟨e5, he5, hq⟩ | ⟨n, hn, hn0, hn60, hq, hI4⟩
          · simp only [Prod.mk.injEq] at hq
            obtain ⟨rfl, rfl, rfl⟩ := hq
            have hd4 : (e4 == 0) = false := by simpa using he5
            have HE4 := Lib.hid he5; clear he5
            go_wp2
            exact ⟨⟨k + 1, s4, f, by omega, by omega, by go_num, hs4, hM4, hI.up, hB4⟩, by simp [intOf]; omega⟩
          · simp only [Prod.mk.injEq] at hq
            obtain ⟨rfl, rfl, rfl⟩ := hq
            have HN := Lib.hid hn; clear hn
            have hn200 : n < 200 := by omega
            have hd4 : decide ((n : Int) < 200) = true := by simp; omega
            obtain ⟨hS5, hM5, hB5⟩ := sent_put0 hs4 hM4 hn200 ⟨(n : Int), y.f1, y.f2⟩ hB4 hgm
            obtain ⟨a0, a1, a2⟩ := sentC_at f n hn200
            have p0 : w4.cell? ⟨m, n * 3, none⟩ = some (.int .u32 (f n).f0) := (hM4.cell _).trans a0
            have p1 : w4.cell? ⟨m, n * 3 + 1, none⟩ = some (.int .i64 (f n).f1) := (hM4.cell _).trans a1
            have p2 : w4.cell? ⟨m, n * 3 + 2, none⟩ = some (.string (f n).f2) := (hM4.cell _).trans a2
            have f0 := hM4.frozen (n * 3)
            have f1 := hM4.frozen (n * 3 + 1)
            have f2 := hM4.frozen (n * 3 + 2)
            clear a0 a1 a2
            go_wp2_with (fail)
            go_region_with (fail)
            all_goals
              go_wp2
              exact ⟨⟨k + 1, _, _, by omega, by omega, by go_num, hS5, hM5, hI4, hB5⟩, by simp [intOf]; omega⟩
        · have hcp := copyF_out s x.f1 ho
          have HCP := Lib.hid hcp; clear hcp
          have HO := Lib.hid ho; clear ho
          have hlen := hI.len
          go_wp2_with (fail)
          refine HA.out.mono ?_
          rintro e w3 ⟨v, rfl, hR3, hb3⟩
          have hs3 := hS1.below hb3
          have hM3 := hM1.callee hb3
          have hX3 := hBx.callee hb3
          have q1 : w3.cell? ⟨B, 1, none⟩ = some (.int .i64 x.f1) := hX3.cell 1
          have hB3 := G.below_then hB1 hB1.size hb3
          obtain ⟨A3, c3, rfl, hlc3, hC3⟩ := Kd.R_reads hR3
          go_wp2_with (fail)
          refine (Copy.is g _ _ _ hs3 (by omega)).mono ?_
          rw [HCP.out]
          rintro e w4 ⟨rfl, hs4, hg4⟩
          have hM4 := hM3.kept hg4 (fun e => hgne (Option.some.inj e).symm)
          have hX4 := hX3.kept hg4 (fun e => hBg (Option.some.inj e))
          have q2 : w4.cell? ⟨B, 1, none⟩ = some (.int .i64 x.f1) := hX4.cell 1
          have hB4 := below_grown' hB3 hB3.size hg4 hr
          go_wp2
          exact ⟨⟨k + 1, s, f, by omega, by omega, by go_num, hs4, hM4, hI.up, hB4⟩, by simp [intOf]; omega⟩
      · go_wp2
        exact ⟨⟨k + 1, s, f, by omega, by omega, by go_num, hS1, hM1, hI.up, hB1⟩, by simp [intOf]; omega⟩
    · have hend : (k < l0.length ∧ k = 60) ∨ k = l0.length := by omega
      clear hlt
      rcases hend with ⟨hl, rfl⟩ | rfl
      all_goals
        go_wp2
        go_ret
        exact ⟨rfl, hB⟩
end Go.Proofs.Ythmeakkpmielmaa.R
