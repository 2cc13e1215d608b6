/- Ballots: plain facts that several laws use. -/
import Derived.Test.YtnllilpbgenjbaaPx3
import Derived.IntWalk
namespace Go.Proofs.Ytnllilpbgenjbaa.Pure
open Go.RowKit Go.Proofs.Ytnllilpbgenjbaa.P Go.Proofs.YtnllilpbgenjbaaW.PrintWords Go.Proofs.YtnllilpbgenjbaaW.PrintLast Go.Proofs.YtnllilpbgenjbaaW.PrintMore

theorem shown_true : rostrumlaw08_shown.f = some true := by
  have e1 : G.ballot_Promise.f 0 0 (⟨#[]⟩ : ByteArray) 17 = some (17, 0, ⟨#[]⟩, 0) := by decide +kernel
  have e2 : G.ballot_Cast.f 17 0 (⟨#[]⟩ : ByteArray) 16 ⟨#[120]⟩ = some (0, 0, ⟨#[]⟩, 80) := by decide +kernel
  have e3 : G.ballot_Cast.f 17 0 (⟨#[]⟩ : ByteArray) 17 ⟨#[121]⟩ = some (17, 17, ⟨#[121]⟩, 0) := by decide +kernel
  have e4 : G.ballot_Decided.f [⟨17, 17, ⟨#[121]⟩⟩, ⟨17, 17, ⟨#[121]⟩⟩, ⟨0, 0, ⟨#[]⟩⟩] = some (⟨#[121]⟩, true, 0) := by decide +kernel
  unfold rostrumlaw08_shown.f
  rw [e1]
  simp only [Option.bind_some]
  rw [e2, e3]
  simp only [Option.bind_some]
  rw [e4]
  have t1 : (⟨#[121]⟩ : ByteArray).toList = [121] := by rw [ByteArray.toList_eq]
  have t2 : (⟨#[]⟩ : ByteArray).toList = [] := by rw [ByteArray.toList_eq]
  simp [t1, t2]
theorem wrap_in {x : Int} (h0 : 0 ≤ x) (h1 : x < 18446744073709551616) : IntKind.u64.wrap x = x := IntWalk.u64_in x ⟨h0, by omega⟩
theorem wf_u64 {n : Int} (h : (Lit.int .u64 n).wf = true) : 0 ≤ n ∧ n < 18446744073709551616 := by
  simp [Lit.wf, IntKind.min, IntKind.max, IntKind.bits, IntKind.signed] at h
  omega
theorem wf_i64 {n : Int} (h : (Lit.int .i64 n).wf = true) : -9223372036854775808 ≤ n ∧ n < 9223372036854775808 := by
  simp [Lit.wf, IntKind.min, IntKind.max, IntKind.bits, IntKind.signed] at h
  omega
theorem cut_is (s : ByteArray) : ∃ t, rostrumlaw08_cut.f s = some t ∧ t.size ≤ 4100 ∧ (s.size ≤ 4100 → t = s) := by
  unfold rostrumlaw08_cut.f
  have h1 : 0 ≤ mn (s.size : Int) 4100 := by unfold mn; split <;> omega
  have h2 : mn (s.size : Int) 4100 ≤ (s.size : Int) := by unfold mn; split <;> omega
  have h3 : mn (s.size : Int) 4100 ≤ 4100 := by unfold mn; split <;> omega
  rw [if_pos h1, if_pos h2]
  refine ⟨_, rfl, by rw [ByteArray.size_extract]; omega, fun h => ?_⟩
  have : mn (s.size : Int) 4100 = s.size := by unfold mn; split <;> omega
  rw [this]
  exact ByteArray.extract_zero_size
/-- From some number of rounds on this is told. -/
def Ev {α : Type} (f : Nat → Option α) (r : α) : Prop := ∃ K, ∀ k, K ≤ k → f k = some r
theorem Ev.step {α : Type} {f g : Nat → Option α} {r : α} (h : Ev g r) (hf : ∀ k, f (k + 1) = g k) : Ev f r := by
  obtain ⟨K, h⟩ := h
  refine ⟨K + 1, fun k hk => ?_⟩
  obtain ⟨j, rfl⟩ : ∃ j, k = j + 1 := ⟨k - 1, by omega⟩
  rw [hf]; exact h j (by omega)
theorem Ev.now {α : Type} {f : Nat → Option α} {r : α} (hf : ∀ k, f (k + 1) = some r) : Ev f r := by
  refine ⟨1, fun k hk => ?_⟩
  obtain ⟨j, rfl⟩ : ∃ j, k = j + 1 := ⟨k - 1, by omega⟩
  exact hf j
theorem Ev.same {α : Type} {f g : Nat → Option α} {r : α} (h : Ev g r) (hf : ∀ k, f k = g k) : Ev f r := by
  obtain ⟨K, h⟩ := h
  exact ⟨K, fun k hk => (hf k).trans (h k hk)⟩
theorem ref_right (p b : Int) (v : ByteArray) (hb : 0 ≤ b) : rostrumref08_Right.f p b v = some (G.rightS p b v) := by
  unfold rostrumref08_Right.f G.rightS
  have he : v.toList = ([] : List UInt8) ↔ v.size = 0 := by
    rw [ByteArray.toList_eq]
    rw [← List.length_eq_zero_iff, Array.length_toList]
    rfl
  by_cases h1 : b ≤ p
  · rw [if_pos h1]
    by_cases h2 : b > 0
    · rw [if_pos h2]
      have h3 : ¬ b = 0 := by omega
      simp [h1, h2]
      omega
    · have h3 : b = 0 := by omega
      rw [if_neg h2]
      by_cases h4 : v.size = 0
      · rw [if_pos (he.2 h4)]
        simp [h3, h4]
        omega
      · rw [if_neg (fun h => h4 (he.1 h))]
        simp [h3, h4]
  · rw [if_neg h1]
    simp only [h1, decide_false, Bool.false_and, Bool.and_false]
/-- What 'some' makes of a vote. -/
def cutV (x : S24) : S24 := ⟨x.f0, x.f1, x.f2.extract 0 (mn (x.f2.size : Int) 4100).toNat⟩
theorem rd_nat (l : List S24) (i : Nat) (h : i < l.length) : rd_T24 l (i : Int) = l[i] := G.rd_get l i h
theorem some_loop (l : List S24) : ∀ (d i : Nat), i ≤ l.length → i ≤ 20 → 20 - i = d → Ev (fun k => rostrumlaw08_some.l0 k l ((l.take i).map cutV) i) ((l.take 20).map cutV)
  | d, i, hi, h20, hd => by
    by_cases h : i < l.length ∧ i < 20
    · have ih := some_loop l (d - 1) (i + 1) (by omega) (by omega) (by omega)
      refine ih.step fun k => ?_
      show rostrumlaw08_some.l0 (k + 1) l ((l.take i).map cutV) i = _
      conv => lhs; unfold rostrumlaw08_some.l0
      rw [if_pos (by omega), if_pos (by omega), if_pos (by omega), rd_nat l i h.1]
      have h1 : 0 ≤ mn (l[i].f2.size : Int) 4100 := by unfold mn; split <;> omega
      have h2 : mn (l[i].f2.size : Int) 4100 ≤ (l[i].f2.size : Int) := by unfold mn; split <;> omega
      unfold rostrumlaw08_cut.f
      rw [if_pos h1, if_pos h2]
      simp only [Option.bind_some]
      rw [if_pos (by simp; omega), show wrap64 ((i : Int) + 1) = ((i + 1 : Nat) : Int) by rw [IntWalk.wrap64_in _ (by omega)]; rfl]
      congr 1
      rw [List.take_succ_eq_append_getElem h.1, List.map_append]
      rfl
    · have ht : l.take i = l.take 20 := by
        rcases Nat.lt_or_ge i 20 with h1 | h1
        · rw [List.take_of_length_le (by omega), List.take_of_length_le (by omega)]
        · rw [show i = 20 by omega]
      refine Ev.now fun k => ?_
      show rostrumlaw08_some.l0 (k + 1) l ((l.take i).map cutV) i = _
      unfold rostrumlaw08_some.l0
      rw [ht]
      by_cases h1 : (i : Int) < (l.length : Int)
      · rw [if_pos h1, if_neg (by omega)]
      · rw [if_neg h1]
theorem some_ev (l : List S24) : Ev (fun k => rostrumlaw08_some.f k l) ((l.take 20).map cutV) := some_loop l 20 0 (by omega) (by omega) rfl
theorem ref_promise_f (p b : Int) (v : ByteArray) (x : Int) (hb : 0 ≤ b) (hx : 0 ≤ x) : rostrumref08_Promise.f 1 p b v x = some (G.promiseS p b v x) := by
  unfold rostrumref08_Promise.f
  rw [ref_right p b v hb]
  simp only [Option.bind_some]
  have hd : decide (x < 1) = decide (x = 0) := by by_cases h : x = 0 <;> simp [h]; omega
  unfold G.promiseS
  by_cases hr : G.rightS p b v = true
  · rw [if_pos hr, hd]
    by_cases hx0 : x = 0
    · rw [if_pos (.inr hx0), decide_eq_true hx0]; rfl
    · rw [if_neg (by simp [hr, hx0]), decide_eq_false hx0]
      by_cases hp : x ≤ p
      · rw [if_pos hp]
        unfold rostrumref08_Promise.j0
        simp [hp]
      · rw [if_neg hp]
        unfold rostrumref08_Promise.j0
        simp [hp]
  · rw [if_neg hr, if_pos (.inl (by simpa using hr))]; rfl
theorem ref_promise (p b : Int) (v : ByteArray) (x : Int) (hb : 0 ≤ b) (hx : 0 ≤ x) (W : World) :
    Calls Try.prog 13 #[.agg #[.int .u64 p, .int .u64 b, .string v], .int .u64 x] W fun e w' => e = .returned (G.voteV (G.promiseS p b v x)) ∧ Below W.heap.size W w' := by
  exact rostrumref08_Promise.calls 1 p b v x _ _ _ _ W (ref_promise_f p b v x hb hx)
theorem ref_cast_f (p b : Int) (v : ByteArray) (x : Int) (y : ByteArray) (hb : 0 ≤ b) (hx : 0 ≤ x) : rostrumref08_Cast.f 1 p b v x y = some (G.castS p b v x y) := by
  unfold rostrumref08_Cast.f
  rw [ref_right p b v hb]
  simp only [Option.bind_some]
  unfold G.castS
  by_cases hr : G.rightS p b v = true
  · rw [if_pos hr]
    by_cases hx0 : x < 1
    · rw [if_pos hx0, if_pos (.inr (.inl (by omega)))]; rfl
    · rw [if_neg hx0]
      by_cases hy : y.size ≤ 4000
      · rw [decide_eq_false (by omega), if_neg (by rintro (h | h | h); rw [hr] at h; cases h; omega; exact h hy)]
        by_cases hp : x < p
        · rw [if_pos hp]
          unfold rostrumref08_Cast.j0
          simp [hp]
        · rw [if_neg hp]
          unfold rostrumref08_Cast.j0
          simp [hp]
      · rw [decide_eq_true (by omega), if_pos (.inr (.inr hy))]; rfl
  · rw [if_neg hr, if_pos (.inl (by simpa using hr))]; rfl
theorem ref_cast (p b : Int) (v : ByteArray) (x : Int) (y : ByteArray) (hb : 0 ≤ b) (hx : 0 ≤ x) (W : World) :
    Calls Try.prog 15 #[.agg #[.int .u64 p, .int .u64 b, .string v], .int .u64 x, .string y] W fun e w' => e = .returned (G.voteV (G.castS p b v x y)) ∧ Below W.heap.size W w' := by
  exact rostrumref08_Cast.calls 1 p b v x y _ _ _ _ W (ref_cast_f p b v x y hb hx)
theorem ref_right_b (p b : Int) (v : ByteArray) (hb : 0 ≤ b) (W : World) :
    Calls Try.prog 17 #[.agg #[.int .u64 p, .int .u64 b, .string v]] W fun e w' => e = .returned (.bool (G.rightS p b v)) ∧ Below W.heap.size W w' := rostrumref08_Right.calls _ _ _ _ W (ref_right p b v hb)
theorem shown_b (W : World) : Calls Try.prog 10 #[] W fun e w' => e = .returned (.bool true) ∧ Below W.heap.size W w' := rostrumlaw08_shown.calls true W shown_true
theorem blk3 {W : World} {g : Nat} {t : TypeId} {a b c : Value} (h : G.Blk W g t #[a, b, c]) : W.cell? ⟨g, 0, none⟩ = some a ∧ W.cell? ⟨g, 1, none⟩ = some b ∧ W.cell? ⟨g, 2, none⟩ = some c ∧ W.frozen? ⟨g, 0, none⟩ = false ∧ W.frozen? ⟨g, 1, none⟩ = false ∧ W.frozen? ⟨g, 2, none⟩ = false :=
  ⟨h.cell 0, h.cell 1, h.cell 2, h.frozen 0, h.frozen 1, h.frozen 2⟩
end Go.Proofs.Ytnllilpbgenjbaa.Pure
