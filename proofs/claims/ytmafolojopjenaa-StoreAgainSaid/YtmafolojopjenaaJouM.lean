/- Records as plain mathematics: what is read of bytes. No program, no memory. -/
import Derived.Test.YtmafolojopjenaaCrcA
namespace Go.Proofs.Ytmafolojopjenaa.Jo
open Go Go.Proofs.Ytmafolojopjenaa.Cr
set_option linter.unusedSimpArgs false

abbrev Bs := List UInt8
/-- A record's bytes. -/
def bodyL (d : Bs) : Bs := 52 :: (putL (BitVec.ofNat 32 d.length) ++ d)
def recL (d : Bs) : Bs := bodyL d ++ putL (sumB (bodyL d))
theorem putL_length (x : BitVec 32) : (putL x).length = 4 := rfl
theorem bodyL_length (d : Bs) : (bodyL d).length = d.length + 5 := by simp [bodyL, putL_length]; omega
theorem recL_length (d : Bs) : (recL d).length = d.length + 9 := by simp [recL, bodyL_length, putL_length]
/-- The record that bytes begin with: its data. -/
def oneL : Bs → Option Bs
  | m :: a :: b :: c :: e :: r =>
    if m = 52 ∧ (getB a b c e).toNat ≤ 4096 ∧ (getB a b c e).toNat + 4 ≤ r.length ∧ (r.drop (getB a b c e).toNat).take 4 = putL (sumB (m :: a :: b :: c :: e :: r.take (getB a b c e).toNat)) then some (r.take (getB a b c e).toNat) else none
  | _ => none
theorem oneL_cons (m a b c e : UInt8) (r : Bs) : oneL (m :: a :: b :: c :: e :: r) =
    if m = 52 ∧ (getB a b c e).toNat ≤ 4096 ∧ (getB a b c e).toNat + 4 ≤ r.length ∧ (r.drop (getB a b c e).toNat).take 4 = putL (sumB (m :: a :: b :: c :: e :: r.take (getB a b c e).toNat)) then some (r.take (getB a b c e).toNat) else none := rfl
theorem oneL_some {l d : Bs} (h : oneL l = some d) : d.length ≤ 4096 ∧ recL d <+: l := by
  match l, h with
  | m :: a :: b :: c :: e :: r, h =>
    rw [oneL_cons] at h
    obtain ⟨n, hn⟩ : ∃ n, (getB a b c e).toNat = n := ⟨_, rfl⟩
    rw [hn] at h
    by_cases hc : m = 52 ∧ n ≤ 4096 ∧ n + 4 ≤ r.length ∧ (r.drop n).take 4 = putL (sumB (m :: a :: b :: c :: e :: r.take n))
    · rw [if_pos hc] at h
      obtain ⟨rfl, h1, h2, h3⟩ := hc
      obtain rfl := Option.some.inj h
      have hl : (r.take n).length = n := by rw [List.length_take]; omega
      have hb : bodyL (r.take n) = 52 :: a :: b :: c :: e :: r.take n := by
        unfold bodyL
        rw [hl, ← hn, BitVec.ofNat_toNat, BitVec.setWidth_eq, put_get]
        rfl
      refine ⟨by rw [hl]; exact h1, ?_⟩
      unfold recL
      rw [hb, ← h3]
      refine ⟨(r.drop n).drop 4, ?_⟩
      rw [List.append_assoc, List.take_append_drop]
      simp [List.take_append_drop]
    · rw [if_neg hc] at h; cases h
theorem oneL_rec {d : Bs} (h : d.length ≤ 4096) (r : Bs) : oneL (recL d ++ r) = some d := by
  have hg : ∀ x : BitVec 32, putL x = [byteAt x 0, byteAt x 1, byteAt x 2, byteAt x 3] := fun _ => rfl
  have hx := get_put (BitVec.ofNat 32 d.length)
  have hgb : getB (byteAt (BitVec.ofNat 32 d.length) 0) (byteAt (BitVec.ofNat 32 d.length) 1) (byteAt (BitVec.ofNat 32 d.length) 2) (byteAt (BitVec.ofNat 32 d.length) 3) = BitVec.ofNat 32 d.length := by
    rw [hg] at hx
    exact Option.some.inj hx
  have hs : recL d ++ r = 52 :: byteAt (BitVec.ofNat 32 d.length) 0 :: byteAt (BitVec.ofNat 32 d.length) 1 :: byteAt (BitVec.ofNat 32 d.length) 2 :: byteAt (BitVec.ofNat 32 d.length) 3 :: (d ++ (putL (sumB (bodyL d)) ++ r)) := by
    unfold recL
    rw [show bodyL d = 52 :: byteAt (BitVec.ofNat 32 d.length) 0 :: byteAt (BitVec.ofNat 32 d.length) 1 :: byteAt (BitVec.ofNat 32 d.length) 2 :: byteAt (BitVec.ofNat 32 d.length) 3 :: d from rfl]
    simp [List.append_assoc]
  have hn : (BitVec.ofNat 32 d.length).toNat = d.length := by rw [BitVec.toNat_ofNat]; exact Nat.mod_eq_of_lt (by omega)
  rw [hs, oneL_cons, hgb, hn, List.take_left, List.drop_left, show (putL (sumB (bodyL d)) ++ r).take 4 = putL (sumB (bodyL d)) from List.take_left' rfl]
  rw [if_pos]
  refine ⟨rfl, h, by simp [putL_length], ?_⟩
  rfl
theorem oneL_iff (l d : Bs) : oneL l = some d ↔ d.length ≤ 4096 ∧ recL d <+: l := by
  constructor
  · exact oneL_some
  · rintro ⟨h, r, rfl⟩; exact oneL_rec h r
theorem rec_inj {d e : Bs} (hd : d.length ≤ 4096) (he : e.length ≤ 4096) {r s : Bs} (h : recL d ++ r = recL e ++ s) : d = e ∧ r = s := by
  have h1 := oneL_rec hd r
  rw [h, oneL_rec he s] at h1
  obtain rfl := Option.some.inj h1
  exact ⟨rfl, List.append_cancel_left h⟩
/-- A part of a record's bytes, short of all, begins with none. -/
theorem oneL_part {d : Bs} (hd : d.length ≤ 4096) {k : Nat} (hk : k < d.length + 9) : oneL ((recL d).take k) = none := by
  cases h : oneL ((recL d).take k) with
  | none => rfl
  | some e =>
    obtain ⟨he, r, hr⟩ := oneL_some h
    have h2 : recL d ++ [] = recL e ++ (r ++ (recL d).drop k) := by rw [← List.append_assoc, hr, List.take_append_drop, List.append_nil]
    obtain ⟨rfl, h3⟩ := rec_inj hd he h2
    have h4 := congrArg List.length hr
    rw [List.length_append, List.length_take, recL_length] at h4
    omega
theorem oneL_short {l : Bs} (h : l.length < 9) : oneL l = none := by
  cases h1 : oneL l with
  | none => rfl
  | some e =>
    obtain ⟨_, r, rfl⟩ := oneL_some h1
    rw [List.length_append, recL_length] at h
    omega
/-- Several records' bytes. -/
def recsL (ds : List Bs) : Bs := ds.flatMap recL
theorem recsL_nil : recsL [] = [] := rfl
theorem recsL_cons (d : Bs) (ds : List Bs) : recsL (d :: ds) = recL d ++ recsL ds := rfl
theorem recsL_append (a b : List Bs) : recsL (a ++ b) = recsL a ++ recsL b := by simp [recsL]
theorem recsL_one (d : Bs) : recsL [d] = recL d := by simp [recsL]
/-- What is read of bytes. -/
def readN : Nat → Bs → List Bs
  | 0, _ => []
  | k + 1, l => match oneL l with
    | none => []
    | some d => d :: readN k (l.drop (d.length + 9))
def readL (l : Bs) : List Bs := readN l.length l
/-- ds are the records that l begins with, as far as there are records. -/
def Reads (l : Bs) (ds : List Bs) : Prop := (∀ d ∈ ds, d.length ≤ 4096) ∧ ∃ r, l = recsL ds ++ r ∧ oneL r = none
theorem readN_reads (k : Nat) : ∀ l : Bs, l.length ≤ k → Reads l (readN k l) := by
  induction k with
  | zero =>
    intro l h
    have : l = [] := List.length_eq_zero_iff.1 (by omega)
    subst this
    exact ⟨fun d hd => by simp [readN] at hd, [], rfl, rfl⟩
  | succ k ih =>
    intro l h
    unfold readN
    cases h1 : oneL l with
    | none => exact ⟨fun d hd => by simp at hd, l, rfl, h1⟩
    | some d =>
      obtain ⟨hd, r, rfl⟩ := oneL_some h1
      have hdr : (recL d ++ r).drop (d.length + 9) = r := List.drop_left' (recL_length d)
      have hl : r.length ≤ k := by rw [List.length_append, recL_length] at h; omega
      obtain ⟨h2, r2, h3, h4⟩ := ih r hl
      simp only [hdr]
      refine ⟨?_, r2, ?_, h4⟩
      · intro e he
        rcases List.mem_cons.1 he with rfl | he
        · exact hd
        · exact h2 e he
      · rw [recsL_cons, List.append_assoc, ← h3]
theorem readL_reads (l : Bs) : Reads l (readL l) := readN_reads _ l (Nat.le_refl _)
theorem reads_unique {l : Bs} {ds es : List Bs} (h : Reads l ds) (k : Reads l es) : ds = es := by
  induction ds generalizing l es with
  | nil =>
    obtain ⟨_, r, rfl, hr⟩ := h
    obtain ⟨k1, s, ks, _⟩ := k
    cases es with
    | nil => rfl
    | cons e es =>
      rw [recsL_cons, List.append_assoc] at ks
      rw [ks, oneL_rec (k1 e List.mem_cons_self)] at hr
      cases hr
  | cons d ds ih =>
    obtain ⟨h1, r, rfl, hr⟩ := h
    obtain ⟨k1, s, ks, hs⟩ := k
    cases es with
    | nil =>
      rw [recsL_nil, List.nil_append, recsL_cons, List.append_assoc] at ks
      rw [← ks, oneL_rec (h1 d List.mem_cons_self)] at hs
      cases hs
    | cons e es =>
      rw [recsL_cons, recsL_cons, List.append_assoc, List.append_assoc] at ks
      obtain ⟨rfl, h3⟩ := rec_inj (h1 d List.mem_cons_self) (k1 e List.mem_cons_self) ks
      congr 1
      exact ih (l := recsL ds ++ r) ⟨fun x hx => h1 x (List.mem_cons_of_mem _ hx), r, rfl, hr⟩ ⟨fun x hx => k1 x (List.mem_cons_of_mem _ hx), s, h3, hs⟩
theorem readL_eq {l : Bs} {ds : List Bs} (h : Reads l ds) : readL l = ds := reads_unique (readL_reads l) h
theorem readL_small {l : Bs} {d : Bs} (h : d ∈ readL l) : d.length ≤ 4096 := (readL_reads l).1 d h
/-- What is good. -/
def goodL (l : Bs) : Nat := (recsL (readL l)).length
theorem goodL_le (l : Bs) : goodL l ≤ l.length := by
  obtain ⟨_, r, h, _⟩ := readL_reads l
  unfold goodL
  conv => rhs; rw [h]
  rw [List.length_append]; omega
theorem take_good (l : Bs) : l.take (goodL l) = recsL (readL l) := by
  obtain ⟨_, r, h, _⟩ := readL_reads l
  conv => lhs; arg 2; rw [h]
  exact List.take_left' rfl
theorem drop_good (l : Bs) : oneL (l.drop (goodL l)) = none := by
  obtain ⟨_, r, h, hr⟩ := readL_reads l
  have : l.drop (goodL l) = r := by
    conv => lhs; arg 2; rw [h]
    exact List.drop_left' rfl
  rw [this]; exact hr
theorem reads_recs {ds : List Bs} (h : ∀ d ∈ ds, d.length ≤ 4096) (r : Bs) (hr : oneL r = none) : readL (recsL ds ++ r) = ds := readL_eq ⟨h, r, rfl, hr⟩
theorem reads_all {ds : List Bs} (h : ∀ d ∈ ds, d.length ≤ 4096) : readL (recsL ds) = ds := by
  have := reads_recs h [] rfl
  rwa [List.append_nil] at this
theorem good_recs {ds : List Bs} (h : ∀ d ∈ ds, d.length ≤ 4096) (r : Bs) (hr : oneL r = none) : goodL (recsL ds ++ r) = (recsL ds).length := by
  unfold goodL; rw [reads_recs h r hr]
theorem good_all {ds : List Bs} (h : ∀ d ∈ ds, d.length ≤ 4096) : goodL (recsL ds) = (recsL ds).length := by
  unfold goodL; rw [reads_all h]
/-- What is read of whole bytes and others behind them. -/
theorem reads_join {ds : List Bs} (h : ∀ d ∈ ds, d.length ≤ 4096) (t : Bs) : readL (recsL ds ++ t) = ds ++ readL t := by
  obtain ⟨h1, r, h2, h3⟩ := readL_reads t
  refine readL_eq ⟨?_, r, ?_, h3⟩
  · intro d hd
    rcases List.mem_append.1 hd with hd | hd
    · exact h d hd
    · exact h1 d hd
  · rw [recsL_append, List.append_assoc, ← h2]
theorem good_join {ds : List Bs} (h : ∀ d ∈ ds, d.length ≤ 4096) (t : Bs) : goodL (recsL ds ++ t) = (recsL ds).length + goodL t := by
  unfold goodL; rw [reads_join h, recsL_append, List.length_append]
theorem whole_iff (l : Bs) : goodL l = l.length ↔ ∃ ds, (∀ d ∈ ds, d.length ≤ 4096) ∧ l = recsL ds := by
  constructor
  · intro h
    refine ⟨readL l, (readL_reads l).1, ?_⟩
    rw [← take_good, h, List.take_length]
  · rintro ⟨ds, h, rfl⟩; exact good_all h
/-- One step of reading. -/
theorem readL_none {l : Bs} (h : oneL l = none) : readL l = [] := readL_eq ⟨fun d hd => by simp at hd, l, rfl, h⟩
theorem readL_some {l d : Bs} (h : oneL l = some d) : readL l = d :: readL (l.drop (d.length + 9)) := by
  obtain ⟨hd, r, rfl⟩ := oneL_some h
  rw [List.drop_left' (recL_length d)]
  have := reads_join (ds := [d]) (by simpa using hd) r
  rwa [recsL_one] at this
end Go.Proofs.Ytmafolojopjenaa.Jo
