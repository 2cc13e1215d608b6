/- Records: what goes through those of bytes. -/
import Derived.Test.YtmafolojopjenaaJouA
namespace Go.Proofs.Ytmafolojopjenaa.G
open Go.RowKit Go.Shelf Go.Proofs.YtmafolojopjenaaW.PrintWords Go.Proofs.Ytmafolojopjenaa.Cr Go.Proofs.Ytmafolojopjenaa.Jo
attribute [local go_sem] Oper.semAt_some

def mk (l : Bs) : ByteArray := ⟨l.toArray⟩
theorem mk_data (s : ByteArray) : mk s.data.toList = s := by unfold mk; simp
theorem data_mk (l : Bs) : (mk l).data.toList = l := by unfold mk; simp
theorem mk_size (l : Bs) : (mk l).size = l.length := by rw [← size_data, data_mk]
theorem bt_data (s : ByteArray) (i : Nat) (h : i < s.size) : bt s (i : Int) = ((s.data.toList[i]'(by rw [size_data]; exact h)).toNat : Int) := by
  have := bt_at s (i : Int) (by simpa using h)
  rw [← this]
  simp only [Int.toNat_natCast]
  rfl
/-- The five bytes that a record begins with. -/
theorem head5 {l : Bs} (h : 9 ≤ l.length) : ∃ m a b c e r, l = m :: a :: b :: c :: e :: r ∧ 4 ≤ r.length := by
  match l, h with
  | m :: a :: b :: c :: e :: r, h => exact ⟨m, a, b, c, e, r, rfl, by simp at h; omega⟩
theorem numS_of {s : ByteArray} {m a b c e : UInt8} {r : Bs} (h : s.data.toList = m :: a :: b :: c :: e :: r) : numS s = ((getB a b c e).toNat : Int) := by
  unfold numS getS
  rw [data_extract, h]
  rfl
/-- A record that bytes begin with: what length, Open tell. -/
theorem lenS_some {t : ByteArray} {d : Bs} (h : oneL t.data.toList = some d) : lenS t = (((d.length + 9 : Nat) : Int), true) ∧ d.length + 9 ≤ t.size ∧ openS (t.extract 0 (d.length + 9)) = (mk (bodyL d), true) := by
  obtain ⟨hd, r, hr⟩ := oneL_some h
  have hl : t.size = d.length + 9 + r.length := by rw [← size_data, ← hr, List.length_append, recL_length]
  obtain ⟨m, a, b, c, e, r', hh, h4⟩ := head5 (l := t.data.toList) (by rw [size_data]; omega)
  have h1 := h
  rw [hh, oneL_cons] at h1
  split at h1
  · rename_i hc
    obtain ⟨rfl, c1, c2, c3⟩ := hc
    obtain rfl := Option.some.inj h1
    obtain ⟨n, hn⟩ : ∃ n, (getB a b c e).toNat = n := ⟨_, rfl⟩
    rw [hn] at c1 c2 hl hr hd ⊢
    have hdl : (r'.take n).length = n := by rw [List.length_take]; omega
    rw [hdl] at hl ⊢
    have hn' := numS_of hh
    rw [hn] at hn'
    refine ⟨?_, by omega, ?_⟩
    · unfold lenS
      rw [if_neg (by omega), if_neg, hn', if_neg (by omega)]
      · congr 1
        · omega
        · simp; omega
      · have := bt_data t 0 (by omega)
        simp only [hh, List.getElem_cons_zero] at this
        rw [show ((0 : Nat) : Int) = 0 from rfl] at this
        rw [this]; decide
    · have e1 : (t.extract 0 (n + 9)).data.toList = recL (r'.take n) := by
        rw [data_extract, List.drop_zero, Nat.sub_zero, ← hr]
        exact List.take_left' (by rw [recL_length, hdl])
      have e2 : (t.extract 0 (n + 9)).size = n + 9 := by rw [← size_data, e1, recL_length, hdl]
      obtain ⟨T, hT⟩ : ∃ T, t.extract 0 (n + 9) = T := ⟨_, rfl⟩
      rw [hT] at e1 e2 ⊢
      have e3 : T.extract 0 (T.size - 4) = mk (bodyL (r'.take n)) := by
        apply ext_data
        rw [data_extract, e1, e2, data_mk, List.drop_zero]
        unfold recL
        exact List.take_left' (by rw [bodyL_length, hdl]; omega)
      have e4 : T.data.toList.drop (T.size - 4) = putL (sumB (T.data.toList.take (T.size - 4))) := by
        rw [e1, e2]
        unfold recL
        rw [List.drop_left' (by rw [bodyL_length, hdl]; omega), List.take_left' (by rw [bodyL_length, hdl]; omega)]
      rw [openS_yes (by omega) e4, e3]
  · cases h1
theorem if_none {α : Type} {p : Prop} [Decidable p] {x : α} (h : (if p then some x else none) = none) : ¬ p := by
  split at h
  · cases h
  · assumption
theorem lenS_none {t : ByteArray} (h : oneL t.data.toList = none) : (lenS t).2 = false ∨ ∃ n : Nat, lenS t = ((n : Int), true) ∧ n ≤ t.size ∧ 9 ≤ n ∧ openS (t.extract 0 n) = (⟨#[]⟩, false) := by
  unfold lenS
  by_cases h9 : t.size < 9
  · rw [if_pos h9]; exact .inl rfl
  · rw [if_neg h9]
    obtain ⟨m, a, b, c, e, r, hh, h4⟩ := head5 (l := t.data.toList) (by rw [size_data]; omega)
    have hl : t.size = r.length + 5 := by rw [← size_data, hh]; rfl
    have h0 := bt_data t 0 (by omega)
    simp only [hh, List.getElem_cons_zero] at h0
    rw [show ((0 : Nat) : Int) = 0 from rfl] at h0
    by_cases hm : bt t 0 ≠ 52
    · rw [if_pos hm]; exact .inl rfl
    · rw [if_neg hm]
      have hm' : m = 52 := by
        apply UInt8.toNat_inj.1
        rw [h0] at hm
        have := Classical.not_not.1 hm
        show m.toNat = 52
        omega
      subst hm'
      rw [numS_of hh]
      obtain ⟨n, hn⟩ : ∃ n, (getB a b c e).toNat = n := ⟨_, rfl⟩
      rw [hn]
      by_cases hb : (4096 : Int) < (n : Int)
      · rw [if_pos hb]; exact .inl rfl
      · rw [if_neg hb]
        by_cases hs : 5 + (n : Int) + 4 ≤ (t.size : Int)
        · refine .inr ⟨n + 9, ?_, by omega, by omega, ?_⟩
          · congr 1
            · omega
            · simpa using hs
          · have hsz : (t.extract 0 (n + 9)).size = n + 9 := by rw [ByteArray.size_extract]; omega
            have e1 : (t.extract 0 (n + 9)).data.toList = 52 :: a :: b :: c :: e :: r.take (n + 4) := by
              rw [data_extract, List.drop_zero, Nat.sub_zero, hh]
              rfl
            refine openS_no fun _ he => ?_
            rw [e1, hsz] at he
            rw [hh, oneL_cons] at h
            replace h := if_none h
            exact absurd he (fun he => h ⟨rfl, by omega, by omega, by
              rw [hn]
              have e3 : List.drop (n + 9 - 4) (52 :: a :: b :: c :: e :: List.take (n + 4) r) = (r.drop n).take 4 := by
                rw [show n + 9 - 4 = n + 5 by omega]
                show List.drop n (List.take (n + 4) r) = _
                rw [List.drop_take, show n + 4 - n = 4 by omega]
              have e4 : List.take (n + 9 - 4) (52 :: a :: b :: c :: e :: List.take (n + 4) r) = 52 :: a :: b :: c :: e :: r.take n := by
                rw [show n + 9 - 4 = n + 5 by omega]
                show 52 :: a :: b :: c :: e :: List.take n (List.take (n + 4) r) = _
                rw [List.take_take, Nat.min_eq_left (by omega)]
              rw [e3, e4] at he
              exact he⟩)
        · exact .inl (by simpa using hs)
/-- Where records end, and their data. -/
def ends : Nat → List Bs → List (Nat × Bs)
  | _, [] => []
  | a, d :: ds => (a + (d.length + 9), d) :: ends (a + (d.length + 9)) ds
theorem ends_snoc (a : Nat) (ds : List Bs) (d : Bs) : ends a (ds ++ [d]) = ends a ds ++ [(a + (recsL ds).length + (d.length + 9), d)] := by
  induction ds generalizing a with
  | nil => rfl
  | cons e ds ih =>
    show (a + (e.length + 9), e) :: ends (a + (e.length + 9)) (ds ++ [d]) = _
    rw [ih, recsL_cons, List.length_append, recL_length]
    show _ = (a + (e.length + 9), e) :: (ends (a + (e.length + 9)) ds ++ _)
    congr 4
    omega
theorem ends_length (a : Nat) (ds : List Bs) : (ends a ds).length = ds.length := by
  induction ds generalizing a with
  | nil => rfl
  | cons e ds ih => simp [ends, ih]
theorem ends_append (a : Nat) (ds es : List Bs) : ends a (ds ++ es) = ends a ds ++ ends (a + (recsL ds).length) es := by
  induction ds generalizing a with
  | nil => rfl
  | cons e ds ih =>
    show (a + (e.length + 9), e) :: ends (a + (e.length + 9)) (ds ++ es) = _
    rw [ih, recsL_cons, List.length_append, recL_length]
    show _ = (a + (e.length + 9), e) :: (ends (a + (e.length + 9)) ds ++ _)
    congr 3
    omega
def recE (x : Nat × Bs) : Array Value := #[.int .i64 (x.1 : Int), .string (mk x.2)]
end Go.Proofs.Ytmafolojopjenaa.G
