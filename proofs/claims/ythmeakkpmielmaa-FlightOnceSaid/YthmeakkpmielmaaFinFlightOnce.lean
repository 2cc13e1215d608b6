/- Each number is taken once at most. -/
import Derived.Test.YthmeakkpmielmaaFliD
import Derived.Test.YthmeakkpmielmaaFliE
import Derived.OpenShut
namespace Go.Proofs.Ythmeakkpmielmaa.R
open Go.RowKit Go.Proofs.YthmeakkpmielmaaW.PrintWords Go.Proofs.YthmeakkpmielmaaW.PrintMore Go.Proofs.Ythmeakkpmielmaa.P Go.Proofs.Ythmeakkpmielmaa.G Go.Proofs.Ythmeakkpmielmaa.Cr
set_option linter.unusedVariables false
set_option linter.unusedSimpArgs false
attribute [local go_sem] Oper.semAt_some max2_int min2_int max_two min_two

/-- An array of 200 marks. -/
def metC (f : Nat → Bool) : Array Value := ((List.range 200).map fun i => Value.bool (f i)).toArray
theorem metC_get (f : Nat → Bool) (i : Nat) (h : i < 200) : (metC f)[i]? = some (.bool (f i)) := by
  unfold metC
  simp [h]
def markF (f : Nat → Bool) (j : Nat) : Nat → Bool := fun i => if i = j then true else f i
theorem metC_set (f : Nat → Bool) (j : Nat) (h : j < 200) : (metC f).setIfInBounds j (.bool true) = metC (markF f j) := by
  apply Array.ext_getElem?
  intro i
  rw [Array.getElem?_setIfInBounds]
  by_cases hi : i < 200
  · rw [metC_get _ i hi]
    by_cases e : j = i
    · subst e
      simp [markF, metC, h]
    · rw [if_neg e, metC_get _ i hi]
      simp [markF, Ne.symm e]
  · have h1 : (metC f)[i]? = none := by unfold metC; simp; omega
    have h2 : (metC (markF f j))[i]? = none := by unfold metC; simp; omega
    rw [if_neg (by omega), h1, h2]
/-- What holds behind each act. -/
structure OnceI (k : Nat) (s : Fl) (f : Nat → Bool) : Prop where
  n0 : 0 ≤ s.n
  nk : s.n ≤ k
  len : s.l.length ≤ k
  num : ∀ x ∈ s.l, 1 ≤ x.f0 ∧ x.f0 ≤ s.n
  dup : (s.l.map fun x => x.f0).Nodup
  met : ∀ x ∈ s.l, f x.f0.toNat = false
  sz : ∀ x ∈ s.l, x.f2.size ≤ 100
  lo : ∀ i, f i = true → (i : Int) ≤ s.n
theorem OnceI.nil : OnceI 0 ⟨0, []⟩ (fun _ => false) := ⟨Int.le_refl _, Int.le_refl _, Nat.le_refl _, (by simp), (by simp), (by simp), (by simp), (by simp)⟩
theorem OnceI.up {k : Nat} {s : Fl} {f : Nat → Bool} (h : OnceI k s f) : OnceI (k + 1) s f := ⟨h.n0, by have := h.nk; omega, by have := h.len; omega, h.num, h.dup, h.met, h.sz, h.lo⟩
theorem OnceI.send {k : Nat} {s : Fl} {f : Nat → Bool} (h : OnceI k s f) (hk : k < 60) (t : Int) (x : ByteArray) (hx : x.size ≤ 100) :
    OnceI (k + 1) (sendF s t x).1 f ∧ (((sendF s t x).2.2 = 0 ∧ (sendF s t x).2.1 = s.n + 1 ∧ (sendF s t x).1.n = s.n + 1) ∨ ((sendF s t x).2.2 ≠ 0 ∧ (sendF s t x).1.n = s.n)) := by
  unfold sendF
  have hn := h.n0
  have hnk := h.nk
  have hl := h.len
  split
  · exact ⟨h.up, .inr ⟨(fun e => by simp at e), rfl⟩⟩
  · split
    · exact ⟨h.up, .inr ⟨(fun e => by simp at e), rfl⟩⟩
    · have e : IntKind.u32.wrap (s.n + 1) = s.n + 1 := IntWalk.u32_in _ (by omega)
      rw [e]
      refine ⟨⟨by show 0 ≤ s.n + 1; omega, by show s.n + 1 ≤ _; omega, by simp; omega, ?_, ?_, ?_, ?_, ?_⟩, .inl ⟨rfl, rfl, rfl⟩⟩
      · intro y hy
        rw [List.mem_append, List.mem_singleton] at hy
        rcases hy with hy | rfl
        · have := h.num y hy; show 1 ≤ y.f0 ∧ y.f0 ≤ s.n + 1; omega
        · show 1 ≤ s.n + 1 ∧ s.n + 1 ≤ s.n + 1; omega
      · show ((s.l ++ [_]).map _).Nodup
        rw [List.map_append, List.nodup_append]
        refine ⟨h.dup, by simp, ?_⟩
        intro a ha b hb
        simp only [List.map_cons, List.map_nil, List.mem_singleton] at hb
        obtain ⟨y, hy, rfl⟩ := List.mem_map.1 ha
        have := h.num y hy
        omega
      · intro y hy
        rw [List.mem_append, List.mem_singleton] at hy
        rcases hy with hy | rfl
        · exact h.met y hy
        · show f (s.n + 1).toNat = false
          rw [Bool.eq_false_iff]
          intro hq
          have := h.lo _ hq
          omega
      · intro y hy
        rw [List.mem_append, List.mem_singleton] at hy
        rcases hy with hy | rfl
        · exact h.sz y hy
        · exact hx
      · intro i hi
        have := h.lo i hi
        show (i : Int) ≤ s.n + 1
        omega
theorem OnceI.copy {k : Nat} {s : Fl} {f : Nat → Bool} (h : OnceI k s f) (hk : k < 60) (t : Int) :
    OnceI (k + 1) (copyF s t).1 f ∧ (((copyF s t).2.2 = 0 ∧ (copyF s t).2.1 = s.n + 1 ∧ (copyF s t).1.n = s.n + 1) ∨ ((copyF s t).2.2 ≠ 0 ∧ (copyF s t).1.n = s.n)) := by
  by_cases ho : 0 ≤ t ∧ t < s.l.length
  · obtain ⟨j, rfl⟩ := Int.eq_ofNat_of_zero_le ho.1
    have hj : j < s.l.length := by omega
    rw [copyF_in s j hj]
    exact h.send hk _ _ (h.sz _ (List.getElem_mem hj))
  · rw [copyF_out s t ho]
    exact ⟨h.up, .inr ⟨(fun e => by simp at e), rfl⟩⟩
theorem mem_rest {l : List S35} {j : Nat} {x : S35} (h : x ∈ l.take j ++ l.drop (j + 1)) : x ∈ l := by
  rcases List.mem_append.1 h with h | h
  · exact List.mem_of_mem_take h
  · exact List.mem_of_mem_drop h
theorem OnceI.rest {k : Nat} {s : Fl} {f : Nat → Bool} (h : OnceI k s f) (j : Nat) (hj : j < s.l.length) : OnceI (k + 1) ⟨s.n, s.l.take j ++ s.l.drop (j + 1)⟩ (markF f (s.l[j]).f0.toNat) := by
  have hx := h.num _ (List.getElem_mem hj)
  have hsp : s.l = s.l.take j ++ s.l[j] :: s.l.drop (j + 1) := by rw [← List.drop_eq_getElem_cons hj, List.take_append_drop]
  have hd := h.dup
  rw [hsp, List.map_append, List.map_cons, List.nodup_append] at hd
  obtain ⟨d1, d2, d3⟩ := hd
  rw [List.nodup_cons] at d2
  refine ⟨h.n0, by have := h.nk; show s.n ≤ _; omega, by have := h.len; simp; omega, fun x hx => h.num x (mem_rest hx), ?_, ?_, fun x hx => h.sz x (mem_rest hx), ?_⟩
  · show ((s.l.take j ++ s.l.drop (j + 1)).map _).Nodup
    rw [List.map_append, List.nodup_append]
    exact ⟨d1, d2.2, fun a ha b hb => d3 a ha b (List.mem_cons_of_mem _ hb)⟩
  · intro y hy
    have hne : y.f0 ≠ (s.l[j]).f0 := by
      rcases List.mem_append.1 hy with hy | hy
      · exact d3 _ (List.mem_map_of_mem hy) _ (List.mem_cons_self)
      · intro e
        exact d2.1 (e ▸ List.mem_map_of_mem hy)
    have hny := h.num y (mem_rest hy)
    unfold markF
    rw [if_neg (by omega)]
    exact h.met y (mem_rest hy)
  · intro i hi
    unfold markF at hi
    split at hi
    · rename_i e
      show (i : Int) ≤ s.n
      omega
    · exact h.lo i hi
theorem OnceI.drop {k : Nat} {s : Fl} {f : Nat → Bool} (h : OnceI k s f) (t : Int) : OnceI (k + 1) (dropF s t).1 f ∧ (dropF s t).1.n = s.n := by
  unfold dropF
  by_cases ho : 0 ≤ t ∧ t < s.l.length
  · obtain ⟨j, rfl⟩ := Int.eq_ofNat_of_zero_le ho.1
    have hj : j < s.l.length := by omega
    rw [takeF_in s j hj]
    have hr := h.rest j hj
    refine ⟨⟨hr.n0, hr.nk, hr.len, hr.num, hr.dup, fun x hx => h.met x (mem_rest hx), hr.sz, h.lo⟩, rfl⟩
  · rw [takeF_out s t ho]
    exact ⟨h.up, rfl⟩
theorem OnceI.hurt {k : Nat} {s : Fl} {f : Nat → Bool} (h : OnceI k s f) (t b m : Int) : OnceI (k + 1) (hurtF s t b m).1 f ∧ (hurtF s t b m).1.n = s.n := by
  by_cases ho : 0 ≤ t ∧ t < s.l.length
  · obtain ⟨j, rfl⟩ := Int.eq_ofNat_of_zero_le ho.1
    have hj : j < s.l.length := by omega
    rw [hurtF_in s j b m hj]
    split
    · rename_i hc
      refine ⟨⟨h.n0, by have := h.nk; show s.n ≤ _; omega, by have := h.len; simp; omega, ?_, ?_, ?_, ?_, h.lo⟩, rfl⟩
      · intro x hx
        rcases List.mem_or_eq_of_mem_set hx with hx | rfl
        · exact h.num x hx
        · exact h.num (s.l[j]) (List.getElem_mem hj)
      · show ((s.l.set j _).map _).Nodup
        rw [List.map_set]
        have : (s.l.map fun x => x.f0).set j (s.l[j]).f0 = s.l.map fun x => x.f0 := by
          apply List.ext_getElem?
          intro i
          rw [List.getElem?_set]
          split
          · rename_i e
            subst e
            simp [hj]
          · rfl
        rw [this]
        exact h.dup
      · intro x hx
        rcases List.mem_or_eq_of_mem_set hx with hx | rfl
        · exact h.met x hx
        · exact h.met (s.l[j]) (List.getElem_mem hj)
      · intro x hx
        rcases List.mem_or_eq_of_mem_set hx with hx | rfl
        · exact h.sz x hx
        · have hz := h.sz (s.l[j]) (List.getElem_mem hj)
          show (changeS _ _ _).1.size ≤ 100
          unfold changeS
          split
          · exact Nat.zero_le _
          · show (chg _ _ _ _).toArray.size ≤ 100
            rw [List.size_toArray, chg_length, Array.length_toList]
            exact hz
    · exact ⟨h.up, rfl⟩
  · rw [hurtF_out s t b m ho]
    exact ⟨h.up, rfl⟩
theorem met_info : (Try.prog.info? 51).map (fun i => i.zero) = some (some (.agg (metC fun _ => false))) := by kernel_rfl
theorem met_zero (w : World) : (zeroValue 51).run Try.prog w = .ok (.agg (metC fun _ => false)) w := by
  obtain ⟨i, hi, hz⟩ := Option.map_eq_some_iff.1 met_info
  simp [zeroValue, typeInfo, go_sem, hi, hz]
set_option maxRecDepth 100000 in
set_option maxHeartbeats 8000000 in
theorem FlightOnce_fin (A0 : Option Addr) (c0 : Nat) (l0 : List S38) (w : World) (hr0 : Kd.C k38 w A0 l0.length l0) (hc0 : l0.length ≤ c0) (_hm0 : l0.length ≤ maxLen) (_hw0 : ∀ z ∈ l0, (Lit.int .i64 z.f0).wf = true ∧ (Lit.int .i64 z.f1).wf = true ∧ (Lit.int .i64 z.f2).wf = true ∧ (Lit.int .u32 z.f3).wf = true ∧ z.f4.size ≤ maxLen) :
    Calls Try.prog 7 #[.slice A0 l0.length c0] w fun e w' => e = .returned (.bool true) ∧ Below w.heap.size w w' := by
  unfold maxLen at _hm0
  go_enter Try.func7, Try.ntmps7
  go_wp2_with (fail)
  refine (shown.is _).mono ?_
  rintro e w1 ⟨rfl, hb1⟩
  go_wp2_with (fail)
  refine (New.is _).mono ?_
  rintro e w2 ⟨rfl, hs2, hb2⟩
  have hb12 := G.below_then hb1 hb1.size hb2
  have hg0 : w.heap.size ≤ w1.heap.size := hb1.size
  obtain ⟨g, hg⟩ : ∃ g, w1.heap.size = g := ⟨_, rfl⟩
  rw [hg] at hs2 hg0 ⊢
  clear hb2 hb1 hg
  have hr : ∀ b, (some g : Option Nat) = some b → w.heap.size ≤ b := fun b e => by cases e; exact hg0
  have hmz := met_zero
  have hB2 : Below w.heap.size w (w2.alloc (.cells (metC fun _ => false) 51)) := hb12.alloc hb12.size _
  have hm2 : Blk (w2.alloc (.cells (metC fun _ => false) 51)) w2.heap.size 51 (metC fun _ => false) := Blk.new _ _ _
  have hf2 : FlS (w2.alloc (.cells (metC fun _ => false) 51)) g ⟨0, []⟩ := hs2.below ((Below.refl _ w2).alloc (Nat.le_refl _) _)
  have hgm : w.heap.size ≤ w2.heap.size := hb12.size
  obtain ⟨W0, hW0⟩ : ∃ W0, w2.alloc (.cells (metC fun _ => false) 51) = W0 := ⟨_, rfl⟩
  obtain ⟨m, hm⟩ : ∃ m, w2.heap.size = m := ⟨_, rfl⟩
  rw [hm] at hm2 hgm
  rw [hW0] at hB2 hm2 hf2
  have HMZ := Lib.hid hmz
  go_wp2_with (fail)
  have hgne : g ≠ m := by
    have := hs2.lt
    omega
  go_loopw [6, 7] (fun la i wr => ∃ (k : Nat) (s : Fl) (f : Nat → Bool), k ≤ l0.length ∧ k ≤ 60 ∧ i = .int .i64 k ∧ la = .int .u32 s.n ∧ FlS wr g s ∧ Blk wr m 51 (metC f) ∧ OnceI k s f ∧ Below w.heap.size w wr) (fun _ i _ => 60 - (intOf i).toNat)
  case atStart => exact ⟨0, _, _, Nat.zero_le _, Nat.zero_le _, rfl, rfl, hf2, hm2, OnceI.nil, hB2⟩
  case round =>
    obtain ⟨k, s, f, hk, hk60, rfl, rfl, hS, hMt, hI, hB⟩ := hrel
    by_cases hlt : k < l0.length ∧ k < 60
    · obtain ⟨hl1, hl2⟩ := hlt
      obtain ⟨ad, hAd, x0, x1, x2, x3, x4⟩ := at_T38 (Kd.C_below hr0 hB) (k : Int) (by omega) (by omega)
      rw [rd_get_38 l0 k hl1] at x0 x1 x2 x3 x4
      simp only [Int.toNat_natCast] at x0 x1 x2 x3 x4
      subst hAd
      have hw := _hw0 _ (List.getElem_mem hl1)
      obtain ⟨x, hx⟩ : ∃ x, l0[k] = x := ⟨_, rfl⟩
      rw [hx] at x0 x1 x2 x3 x4 hw
      obtain ⟨W1, hW1⟩ : ∃ W1, wr.alloc (.cells #[.int .i64 x.f0, .int .i64 x.f1, .int .i64 x.f2, .int .u32 x.f3, .string x.f4] 38) = W1 := ⟨_, rfl⟩
      obtain ⟨B, hBe⟩ : ∃ B, wr.heap.size = B := ⟨_, rfl⟩
      have hb1 : Below wr.heap.size wr W1 := by rw [← hW1]; exact (Below.refl _ wr).alloc (Nat.le_refl _) _
      have hBx : Blk W1 B 38 #[.int .i64 x.f0, .int .i64 x.f1, .int .i64 x.f2, .int .u32 x.f3, .string x.f4] := by rw [← hW1, ← hBe]; exact Blk.new _ _ _
      have hS1 := hS.below hb1
      have hM1 := hMt.callee hb1
      have hB1 := G.below_then hB hB.size hb1
      have y0 : W1.cell? ⟨B, 0, none⟩ = some (.int .i64 x.f0) := hBx.cell 0
      have y1 : W1.cell? ⟨B, 1, none⟩ = some (.int .i64 x.f1) := hBx.cell 1
      have y2 : W1.cell? ⟨B, 2, none⟩ = some (.int .i64 x.f2) := hBx.cell 2
      have y3 : W1.cell? ⟨B, 3, none⟩ = some (.int .u32 x.f3) := hBx.cell 3
      have y4 : W1.cell? ⟨B, 4, none⟩ = some (.string x.f4) := hBx.cell 4
      obtain ⟨M, hM⟩ : ∃ M, (IntKind.u64.wrap x.f0).tmod 6 = M := ⟨_, rfl⟩
      have hMr : M = 0 ∨ M = 1 ∨ M = 2 ∨ M = 3 ∨ M = 4 ∨ M = 5 := by
        have h0 : 0 ≤ IntKind.u64.wrap x.f0 := by rw [IntKind.wrap_u64]; omega
        rw [IntWalk.rem_in _ _ h0] at hM
        omega
      have HX := Lib.hid hx; clear hx
      have hMr' : (M = 0 ∨ M = 1) ∨ M = 2 ∨ M = 3 ∨ M = 4 ∨ M = 5 := by omega
      clear hMr
      rcases hMr' with h01 | rfl | rfl | rfl | rfl
      · rcases h01 with rfl | rfl
        all_goals
          have HT := Lib.hid (fun W => text.is x W hw.2.2.2.2)
          have hb3 : Below W1.heap.size W1 (W1.alloc (.cells #[.int .i64 x.f0, .int .i64 x.f1, .int .i64 x.f2, .int .u32 x.f3, .string x.f4] 38)) := (Below.refl _ W1).alloc (Nat.le_refl _) _
          have hS3 := hS1.below hb3
          have hB3 := G.below_then hB1 hB1.size hb3
          have hM3 := hM1.callee hb3
          have hB3x := hBx.callee hb3
          have z1 : (W1.alloc (.cells #[.int .i64 x.f0, .int .i64 x.f1, .int .i64 x.f2, .int .u32 x.f3, .string x.f4] 38)).cell? ⟨B, 1, none⟩ = some (.int .i64 x.f1) := hB3x.cell 1
          have hsnd := Send.is g s x.f1 (cutS x.f4) (W1.alloc (.cells #[.int .i64 x.f0, .int .i64 x.f1, .int .i64 x.f2, .int .u32 x.f3, .string x.f4] 38)).drew (show FlS (W1.alloc (.cells #[.int .i64 x.f0, .int .i64 x.f1, .int .i64 x.f2, .int .u32 x.f3, .string x.f4] 38)).drew g s from hS3) (by have := hI.len; omega)
          obtain ⟨hI4, hq4⟩ := hI.send hl2 x.f1 (cutS x.f4) (cutS_size _)
          obtain ⟨s4, n4, e4, hs4⟩ : ∃ s4 n4 e4, sendF s x.f1 (cutS x.f4) = (s4, n4, e4) := ⟨_, _, _, rfl⟩
          rw [hs4] at hI4 hq4 hsnd
          simp only at hq4
          have HSND := Lib.hid hsnd; clear hsnd
          have HS4 := Lib.hid hs4; clear hs4
          go_wp2_with (fail)
          go_region_with (first
            | (go_at_call 15; (with_reducible refine (HT.out _).mono ?_); rintro e w3 ⟨rfl, rfl⟩)
            | (go_at_call 12; (refine HSND.out.mono ?_); rintro e w4 ⟨rfl, hs4, hg4⟩))
          all_goals
            have hM4 := (show Blk (W1.alloc (.cells #[.int .i64 x.f0, .int .i64 x.f1, .int .i64 x.f2, .int .u32 x.f3, .string x.f4] 38)).drew m _ _ from hM3).kept hg4 (fun e => hgne (Option.some.inj e).symm)
            rcases hq4 with ⟨rfl, rfl, hn4⟩ | ⟨he4, hn4⟩
            · have hwr : IntKind.u32.wrap (s.n + 1) = s.n + 1 := IntWalk.u32_in _ (by have := hI.n0; have := hI.nk; omega)
              go_wp2
              exact ⟨⟨k + 1, s4, f, by omega, by omega, by go_num, by rw [hn4], hs4, hM4, hI4, below_grown' hB3.drew hB3.size hg4 hr⟩, by simp [intOf]; omega⟩
            · have hd4 : (e4 == 0) = false := by simpa using he4
              have HE4 := Lib.hid he4; clear he4
              go_wp2
              exact ⟨⟨k + 1, s4, f, by omega, by omega, by go_num, by rw [hn4], hs4, hM4, hI4, below_grown' hB3.drew hB3.size hg4 hr⟩, by simp [intOf]; omega⟩
      · by_cases ho : 0 ≤ x.f1 ∧ x.f1 < s.l.length
        · obtain ⟨j, hj1⟩ := Int.eq_ofNat_of_zero_le ho.1
          have hj : j < s.l.length := by omega
          have htk := Take.is g s x.f1 W1 hS1 (by have := hI.len; omega)
          rw [hj1, takeF_in s j hj] at htk
          have hI4 := hI.rest j hj
          have hn := hI.num _ (List.getElem_mem hj)
          have hmt := hI.met _ (List.getElem_mem hj)
          have hnk := hI.nk
          obtain ⟨y, hy⟩ : ∃ y, s.l[j] = y := ⟨_, rfl⟩
          rw [hy] at htk hI4 hn hmt
          obtain ⟨J, hJ⟩ := Int.eq_ofNat_of_zero_le (show 0 ≤ y.f0 by omega)
          have hJl : J < 200 := by omega
          rw [hJ] at hmt hI4 hn
          rw [Int.toNat_natCast] at hmt hI4
          unfold noteV at htk
          rw [hJ] at htk
          rw [hj1] at y1
          have d1 : decide ((200 : Int) ≤ (J : Int)) = false := by simp; omega
          have d2 : decide (s.n < (J : Int)) = false := by simp; omega
          have HTK := Lib.hid htk; clear htk
          have HY := Lib.hid hy; clear hy
          have HJ := Lib.hid hJ; clear hJ
          have HJ1 := Lib.hid hj1; clear hj1
          have HO := Lib.hid ho; clear ho
          go_wp2_with (fail)
          refine HTK.out.mono ?_
          rintro e w4 ⟨rfl, hs4, hg4⟩
          have hM4 := hM1.kept hg4 (fun e => hgne (Option.some.inj e).symm)
          have hB4 := below_grown' hB1 hB1.size hg4 hr
          have hm4 := hM4.lt
          have hM5 := hM4.alloc (.cells #[.int .u32 J, .int .i64 y.f1, .string y.f2] 35)
          have hs5 := hs4.below ((Below.refl _ w4).alloc (Nat.le_refl _) (.cells #[.int .u32 J, .int .i64 y.f1, .string y.f2] 35))
          have q1 : (w4.alloc (.cells #[.int .u32 J, .int .i64 y.f1, .string y.f2] 35)).cell? ⟨m, J, none⟩ = some (.bool false) := by rw [hM5.cell J, metC_get f J hJl, hmt]
          have q2 := hM5.frozen J
          have hM6 := hM4.set_ J (.bool true)
          rw [metC_set f J hJl] at hM6
          have hs6 : FlS (w4.setCell ⟨m, J, none⟩ (.bool true)) g ⟨s.n, s.l.take j ++ s.l.drop (j + 1)⟩ := hs4.far hM4 (by decide) (by decide) (grown_set _ ⟨m, J, none⟩ _)
          have hB6 : Below w.heap.size w (w4.setCell ⟨m, J, none⟩ (.bool true)) := hB4.setCell (p := ⟨m, J, none⟩) hgm _
          go_wp2
          exact ⟨⟨k + 1, ⟨s.n, s.l.take j ++ s.l.drop (j + 1)⟩, markF f J, by omega, by omega, by go_num, rfl, hs6.below ((Below.refl _ _).alloc (Nat.le_refl _) _), hM6.alloc _, hI4, hB6.alloc hB6.size _⟩, by simp [intOf]; omega⟩
        · have htk := Take.out g s x.f1 W1 hS1 ho
          have HTK := Lib.hid htk; clear htk
          have HO := Lib.hid ho; clear ho
          unfold noteV z35 at HTK
          go_wp2_with (fail)
          refine HTK.out.mono ?_
          rintro e w4 ⟨rfl, hs4, hg4⟩
          have hM4 := hM1.kept hg4 (fun e => hgne (Option.some.inj e).symm)
          have hB4 := below_grown' hB1 hB1.size hg4 hr
          have hm4 := hM4.lt
          go_wp2
          exact ⟨⟨k + 1, s, f, by omega, by omega, by go_num, rfl, hs4.below ((Below.refl _ _).alloc (Nat.le_refl _) _), hM4.alloc _, hI.up, hB4.alloc hB4.size _⟩, by simp [intOf]; omega⟩
      · have hdr := Drop.is g s x.f1 W1 hS1 (by have := hI.len; omega)
        obtain ⟨hI4, hn4⟩ := hI.drop x.f1
        obtain ⟨s4, e4, hs4⟩ : ∃ s4 e4, dropF s x.f1 = (s4, e4) := ⟨_, _, rfl⟩
        rw [hs4] at hI4 hn4 hdr
        have HDR := Lib.hid hdr; clear hdr
        have HS4 := Lib.hid hs4; clear hs4
        go_wp2_with (fail)
        refine HDR.out.mono ?_
        rintro e w4 ⟨rfl, hs4, hg4⟩
        have hM4 := hM1.kept hg4 (fun e => hgne (Option.some.inj e).symm)
        go_wp2
        exact ⟨⟨k + 1, s4, f, by omega, by omega, by go_num, by rw [hn4], hs4, hM4, hI4, below_grown' hB1 hB1.size hg4 hr⟩, by simp [intOf]; omega⟩
      · have hcp := Copy.is g s x.f1 W1 hS1 (by have := hI.len; omega)
        obtain ⟨hI4, hq4⟩ := hI.copy hl2 x.f1
        obtain ⟨s4, n4, e4, hs4⟩ : ∃ s4 n4 e4, copyF s x.f1 = (s4, n4, e4) := ⟨_, _, _, rfl⟩
        rw [hs4] at hI4 hq4 hcp
        simp only at hq4
        have HCP := Lib.hid hcp; clear hcp
        have HS4 := Lib.hid hs4; clear hs4
        go_wp2_with (fail)
        refine HCP.out.mono ?_
        rintro e w4 ⟨rfl, hs4, hg4⟩
        have hM4 := hM1.kept hg4 (fun e => hgne (Option.some.inj e).symm)
        rcases hq4 with ⟨rfl, rfl, hn4⟩ | ⟨he4, hn4⟩
        · have hwr : IntKind.u32.wrap (s.n + 1) = s.n + 1 := IntWalk.u32_in _ (by have := hI.n0; have := hI.nk; omega)
          go_wp2
          exact ⟨⟨k + 1, s4, f, by omega, by omega, by go_num, by rw [hn4], hs4, hM4, hI4, below_grown' hB1 hB1.size hg4 hr⟩, by simp [intOf]; omega⟩
        · have hd4 : (e4 == 0) = false := by simpa using he4
          have HE4 := Lib.hid he4; clear he4
          go_wp2
          exact ⟨⟨k + 1, s4, f, by omega, by omega, by go_num, by rw [hn4], hs4, hM4, hI4, below_grown' hB1 hB1.size hg4 hr⟩, by simp [intOf]; omega⟩
      · have hm := (hw.2.2.2.1 : (Lit.int .u32 x.f3).wf = true)
        have hm' : 0 ≤ x.f3 ∧ x.f3 < 4294967296 := by have := bounds_u32 hm; omega
        have hht := Hurt.is g s x.f1 x.f2 x.f3 W1 hS1 (by have := hI.len; omega) (fun y hy => Nat.le_trans (hI.sz y hy) (by decide)) hm'
        obtain ⟨hI4, hn4⟩ := hI.hurt x.f1 x.f2 x.f3
        obtain ⟨s4, e4, hs4⟩ : ∃ s4 e4, hurtF s x.f1 x.f2 x.f3 = (s4, e4) := ⟨_, _, rfl⟩
        rw [hs4] at hI4 hn4 hht
        have HHT := Lib.hid hht; clear hht
        have HS4 := Lib.hid hs4; clear hs4
        go_wp2_with (fail)
        refine HHT.out.mono ?_
        rintro e w4 ⟨rfl, hs4, hg4⟩
        have hM4 := hM1.kept hg4 (fun e => hgne (Option.some.inj e).symm)
        go_wp2
        exact ⟨⟨k + 1, s4, f, by omega, by omega, by go_num, by rw [hn4], hs4, hM4, hI4, below_grown' hB1 hB1.size hg4 hr⟩, by simp [intOf]; omega⟩
    · have hend : (k < l0.length ∧ k = 60) ∨ k = l0.length := by omega
      clear hlt
      rcases hend with ⟨hl, rfl⟩ | rfl
      all_goals
        go_wp2
        go_ret
        exact ⟨rfl, hB⟩
end Go.Proofs.Ythmeakkpmielmaa.R
