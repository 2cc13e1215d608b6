/- Check sums: what is sealed and changed by at most 32 bits in a row is not opened. Plain mathematics: no program, no memory. -/
import Derived.Test.YtmafolojopjenaaCrcA
namespace Go.Proofs.Ytmafolojopjenaa.Cr
open Go
set_option linter.unusedSimpArgs false

theorem xor_left_comm' (a b c : BitVec 32) : a ^^^ (b ^^^ c) = b ^^^ (a ^^^ c) := by rw [← BitVec.xor_assoc, BitVec.xor_comm a b, BitVec.xor_assoc]
theorem xor_cancel (a b : BitVec 32) : a ^^^ (a ^^^ b) = b := by rw [← BitVec.xor_assoc, BitVec.xor_self, BitVec.zero_xor]
theorem xor_cancel' (a b : BitVec 32) : a ^^^ (b ^^^ a) = b := by rw [BitVec.xor_comm b a, xor_cancel]
def bt1 (t : Bool) : BitVec 32 := if t then 1#32 else 0#32
theorem g_xor (x y : BitVec 32) : g (x ^^^ y) = g x ^^^ g y := by
  unfold g
  rw [BitVec.ushiftRight_xor_distrib, BitVec.getLsbD_xor]
  cases x.getLsbD 0 <;> cases y.getLsbD 0
  · simp
  · simp [BitVec.xor_assoc]
  · simp [BitVec.xor_assoc, BitVec.xor_comm]; exact (xor_left_comm' _ _ _)
  · simp [BitVec.xor_assoc]; rw [xor_cancel']
theorem g_zero : g 0#32 = 0#32 := by decide
theorem g_ne {x : BitVec 32} (h : x ≠ 0#32) : g x ≠ 0#32 := by
  intro h0
  unfold g at h0
  by_cases hb : x.getLsbD 0
  · rw [if_pos hb] at h0
    have := congrArg (fun z : BitVec 32 => z.getLsbD 31) h0
    simp at this
  · rw [if_neg hb] at h0
    rw [BitVec.xor_zero] at h0
    apply h
    apply BitVec.eq_of_getLsbD_eq
    intro i hi
    by_cases h0i : i = 0
    · subst h0i; simpa using hb
    · have := congrArg (fun z : BitVec 32 => z.getLsbD (i - 1)) h0
      simp only [BitVec.getLsbD_ushiftRight] at this
      rw [show 1 + (i - 1) = i by omega] at this
      rw [this]
      simp
theorem iter_xor (n : Nat) (x y : BitVec 32) : iter g n (x ^^^ y) = iter g n x ^^^ iter g n y := by
  induction n generalizing x y with
  | zero => rfl
  | succ n ih => simp only [iter]; rw [g_xor, ih]
theorem iter_zero (n : Nat) : iter g n 0#32 = 0#32 := by
  induction n with
  | zero => rfl
  | succ n ih => simp only [iter]; rw [g_zero, ih]
theorem iter_ne (n : Nat) {x : BitVec 32} (h : x ≠ 0#32) : iter g n x ≠ 0#32 := by
  induction n generalizing x with
  | zero => exact h
  | succ n ih => exact ih (g_ne h)
theorem xor_eq_zero {x y : BitVec 32} : x ^^^ y = 0#32 ↔ x = y := by
  constructor
  · intro h
    have : x ^^^ y ^^^ y = 0#32 ^^^ y := by rw [h]
    rwa [BitVec.xor_assoc, BitVec.xor_self, BitVec.xor_zero, BitVec.zero_xor] at this
  · rintro rfl; exact BitVec.xor_self
theorem iter_inj (n : Nat) {x y : BitVec 32} (h : iter g n x = iter g n y) : x = y := by
  by_cases e : x ^^^ y = 0#32
  · exact xor_eq_zero.1 e
  · exact absurd (by rw [iter_xor, h]; exact BitVec.xor_self) (iter_ne n e)

/-! ### bit by bit -/
def run (s : BitVec 32) : List Bool → BitVec 32
  | [] => s
  | t :: l => run (g (s ^^^ bt1 t)) l
theorem run_append (s : BitVec 32) (a b : List Bool) : run s (a ++ b) = run (run s a) b := by
  induction a generalizing s with
  | nil => rfl
  | cons t a ih => exact ih _
theorem run_false (s : BitVec 32) (n : Nat) : run s (List.replicate n false) = iter g n s := by
  induction n generalizing s with
  | zero => rfl
  | succ n ih => simp only [List.replicate_succ, run, bt1, iter]; rw [ih]; simp
/-- The bits of two rows together. -/
theorem run_xor : ∀ (a b : List Bool) (s r : BitVec 32), a.length = b.length → run (s ^^^ r) (List.zipWith xor a b) = run s a ^^^ run r b
  | [], [], _, _, _ => rfl
  | t :: a, u :: b, s, r, h => by
    simp only [List.zipWith_cons_cons, run]
    rw [← run_xor a b _ _ (by simpa using h), ← g_xor]
    congr 2
    have e : bt1 (xor t u) = bt1 t ^^^ bt1 u := by cases t <;> cases u <;> decide
    rw [e, BitVec.xor_assoc, BitVec.xor_assoc]
    congr 1
    rw [xor_left_comm']
  | [], _ :: _, _, _, h => by simp at h
  | _ :: _, [], _, _, h => by simp at h

def word : List Bool → BitVec 32
  | [] => 0#32
  | t :: l => bt1 t ^^^ (word l <<< 1)
theorem word_bit : ∀ (l : List Bool) (i : Nat), i < 32 → (word l).getLsbD i = l.getD i false
  | [], i, _ => by simp [word]
  | t :: l, 0, _ => by cases t <;> simp [word, bt1]
  | t :: l, i + 1, h => by
    have ih := word_bit l i (by omega)
    simp only [word, BitVec.getLsbD_xor, BitVec.getLsbD_shiftLeft]
    simp only [show i + 1 < 32 from h, decide_true, show ¬ i + 1 < 1 by omega, decide_false, Bool.not_false, Bool.true_and, Nat.add_sub_cancel, ih]
    have : (bt1 t).getLsbD (i + 1) = false := by cases t <;> simp [bt1, BitVec.getLsbD_one]
    rw [this]
    simp
theorem g_shl {x : BitVec 32} (h : x.getLsbD 31 = false) : g (x <<< 1) = x := by
  unfold g
  rw [if_neg (by simp), BitVec.xor_zero]
  apply BitVec.eq_of_getLsbD_eq
  intro i hi
  simp only [BitVec.getLsbD_ushiftRight, BitVec.getLsbD_shiftLeft]
  by_cases hi' : i = 31
  · subst hi'; rw [h]; simp
  · simp [show 1 + i < 32 by omega, show ¬ 1 + i < 1 by omega, show 1 + i - 1 = i by omega]
theorem run_word : ∀ (l : List Bool) (s : BitVec 32), l.length ≤ 32 → run s l = iter g l.length (s ^^^ word l)
  | [], s, _ => by simp [run, iter, word]
  | t :: l, s, h => by
    have hl : l.length ≤ 31 := by simpa using h
    simp only [run, List.length_cons, iter, word]
    rw [run_word l _ (by omega), ← BitVec.xor_assoc, g_xor (s ^^^ bt1 t), g_shl]
    rw [word_bit l 31 (by omega), List.getD_eq_getElem?_getD, List.getElem?_eq_none (by omega)]
    rfl

def byteBits (b : UInt8) : List Bool := (List.range 8).map fun i => b.toBitVec.getLsbD i
theorem byteBits_length (b : UInt8) : (byteBits b).length = 8 := by simp [byteBits]
theorem word_byte (b : UInt8) : word (byteBits b) = b.toBitVec.setWidth 32 := by
  apply BitVec.eq_of_getLsbD_eq
  intro i hi
  rw [word_bit _ _ hi, BitVec.getLsbD_setWidth, List.getD_eq_getElem?_getD]
  by_cases h8 : i < 8
  · simp [byteBits, h8, hi]
  · rw [List.getElem?_eq_none (by rw [byteBits_length]; omega), BitVec.getLsbD_of_ge _ _ (by omega)]; simp
theorem run_byte (s : BitVec 32) (b : UInt8) : run s (byteBits b) = stepB s b := by
  rw [run_word _ _ (by rw [byteBits_length]; omega), byteBits_length, word_byte]; rfl
def bitsOf (l : List UInt8) : List Bool := l.flatMap byteBits
theorem bitsOf_length (l : List UInt8) : (bitsOf l).length = 8 * l.length := by
  induction l with
  | nil => rfl
  | cons b l ih => simp only [bitsOf, List.flatMap_cons, List.length_append, byteBits_length, List.length_cons] at ih ⊢; omega
theorem run_bits (s : BitVec 32) (l : List UInt8) : run s (bitsOf l) = stepsB s l := by
  induction l generalizing s with
  | nil => rfl
  | cons b l ih =>
    show run s (byteBits b ++ bitsOf l) = _
    rw [run_append, run_byte, ih]
    rfl

/-! ### the seal -/
def residue : BitVec 32 := iter g 32 (BitVec.allOnes 32)
theorem bitsOf_put (x : BitVec 32) : word (bitsOf (putL x)) = x := by
  apply BitVec.eq_of_getLsbD_eq
  intro i hi
  rw [word_bit _ _ hi]
  have h4 : i < 8 ∨ (8 ≤ i ∧ i < 16) ∨ (16 ≤ i ∧ i < 24) ∨ (24 ≤ i ∧ i < 32) := by omega
  have e : bitsOf (putL x) = byteBits (byteAt x 0) ++ (byteBits (byteAt x 1) ++ (byteBits (byteAt x 2) ++ byteBits (byteAt x 3))) := by simp [bitsOf, putL]
  have hb : ∀ k j, j < 8 → (byteBits (byteAt x k)).getD j false = x.getLsbD (8 * k + j) := by
    intro k j hj
    simp [byteBits, byteAt, hj, List.getD_eq_getElem?_getD]
  rw [e, List.getD_eq_getElem?_getD]
  rcases h4 with h | h | h | h
  · rw [List.getElem?_append_left (by rw [byteBits_length]; omega), ← List.getD_eq_getElem?_getD, hb 0 i h]; simp
  · rw [List.getElem?_append_right (by rw [byteBits_length]; omega), List.getElem?_append_left (by simp only [byteBits_length]; omega), ← List.getD_eq_getElem?_getD, byteBits_length, hb 1 _ (by omega)]
    congr 1; omega
  · rw [List.getElem?_append_right (by rw [byteBits_length]; omega), List.getElem?_append_right (by simp only [byteBits_length]; omega), List.getElem?_append_left (by simp only [byteBits_length]; omega), ← List.getD_eq_getElem?_getD]
    simp only [byteBits_length]
    rw [hb 2 _ (by omega)]
    congr 1; omega
  · rw [List.getElem?_append_right (by rw [byteBits_length]; omega), List.getElem?_append_right (by simp only [byteBits_length]; omega), List.getElem?_append_right (by simp only [byteBits_length]; omega), ← List.getD_eq_getElem?_getD]
    simp only [byteBits_length]
    rw [hb 3 _ (by omega)]
    congr 1; omega
theorem putL_inj {x y : BitVec 32} (h : putL x = putL y) : x = y := by
  have := congrArg getL h
  rw [get_put, get_put] at this
  exact Option.some.inj this
theorem put_of_four {t : List UInt8} (h : t.length = 4) : ∃ x, t = putL x := by
  obtain ⟨a, b, c, d, rfl⟩ := four h
  exact ⟨getB a b c d, (put_get a b c d).symm⟩
/-- Four bytes behind others are these' sum just if all together leave the one residue. -/
theorem seal_iff (m t : List UInt8) (h : t.length = 4) : t = putL (sumB m) ↔ stepsB (BitVec.allOnes 32) (m ++ t) = residue := by
  obtain ⟨x, rfl⟩ := put_of_four h
  rw [stepsB_append, ← run_bits (stepsB (BitVec.allOnes 32) m) (putL x), run_word _ _ (by rw [bitsOf_length, h]; omega), bitsOf_put, bitsOf_length, h]
  have hs : sumB m = ~~~ (stepsB (BitVec.allOnes 32) m) := by unfold sumB moreB; rw [show ~~~ (0#32) = BitVec.allOnes 32 by decide]
  rw [hs]
  constructor
  · intro e
    have := putL_inj e
    subst this
    unfold residue
    rw [show stepsB (BitVec.allOnes 32) m ^^^ ~~~ stepsB (BitVec.allOnes 32) m = BitVec.allOnes 32 by rw [← BitVec.xor_allOnes, xor_cancel]]
  · intro e
    have e := iter_inj 32 (show iter g 32 _ = iter g 32 (BitVec.allOnes 32) from e)
    congr 1
    have : stepsB (BitVec.allOnes 32) m ^^^ (stepsB (BitVec.allOnes 32) m ^^^ x) = stepsB (BitVec.allOnes 32) m ^^^ BitVec.allOnes 32 := by rw [e]
    rw [← BitVec.xor_assoc, BitVec.xor_self, BitVec.zero_xor] at this
    rw [this, BitVec.xor_allOnes]

/-! ### a burst -/
def bitAt (l : List UInt8) (j : Nat) : Bool := (l.getD (j / 8) 0).toBitVec.getLsbD (j % 8)
theorem bitsOf_eq (l : List UInt8) : bitsOf l = (List.range (8 * l.length)).map (bitAt l) := by
  apply List.ext_getElem
  · simp [bitsOf_length]
  · intro i h1 h2
    rw [List.getElem_map, List.getElem_range]
    rw [bitsOf_length] at h1
    clear h2
    induction l generalizing i with
    | nil => simp at h1
    | cons b l ih =>
      have e : bitsOf (b :: l) = byteBits b ++ bitsOf l := rfl
      by_cases h8 : i < 8
      · rw [List.getElem_of_eq e, List.getElem_append_left (by rw [byteBits_length]; exact h8)]
        simp [byteBits, bitAt, show i / 8 = 0 by omega, show i % 8 = i by omega]
      · rw [List.getElem_of_eq e, List.getElem_append_right (by rw [byteBits_length]; omega)]
        simp only [byteBits_length]
        rw [ih (i - 8) (by rw [bitsOf_length]; simp only [List.length_cons] at h1; omega) (by simp only [List.length_cons] at h1; omega)]
        unfold bitAt
        rw [show (i - 8) % 8 = i % 8 by omega, show i / 8 = (i - 8) / 8 + 1 by omega]
        simp
theorem bitAt_turn (l : List UInt8) (k : Nat) (t : Bool) (j : Nat) (hj : j < 8 * l.length) : bitAt (turnB l k t) j = xor (bitAt l j) (decide (j = k) && t) := by
  unfold turnB
  cases t
  · simp
  · simp only [if_true, Bool.and_true]
    unfold bitAt
    by_cases e : k / 8 = j / 8
    · rw [e, List.getD_eq_getElem?_getD, List.getElem?_set_self (by omega)]
      simp only [Option.getD_some, UInt8.toBitVec_xor, BitVec.getLsbD_xor]
      congr 1
      have hk : (UInt8.ofNat (2 ^ (k % 8))).toBitVec.getLsbD (j % 8) = decide (j % 8 = k % 8) := by
        have h8 : k % 8 < 8 := Nat.mod_lt _ (by omega)
        have hj8 : j % 8 < 8 := Nat.mod_lt _ (by omega)
        simp only [UInt8.toBitVec_ofNat', BitVec.getLsbD_ofNat, hj8, decide_true, Bool.true_and, Nat.testBit_two_pow]
        simp [eq_comm]
      rw [hk]
      by_cases hjk : j = k
      · simp [hjk]
      · have : j % 8 ≠ k % 8 := by omega
        simp [hjk, this]
    · rw [List.getD_eq_getElem?_getD, List.getElem?_set_ne (by omega), ← List.getD_eq_getElem?_getD]
      have : j ≠ k := by rintro rfl; exact e rfl
      simp [this]
/-- Which bits i rounds turn over. -/
theorem bitAt_chg (l : List UInt8) (bit : Nat) (m : BitVec 32) (i : Nat) (j : Nat) (hj : j < 8 * l.length) :
    bitAt (chg l bit m i) j = xor (bitAt l j) (decide (bit ≤ j) && (decide (j < bit + i) && m.getLsbD (j - bit))) := by
  induction i with
  | zero =>
    have : ¬ (bit ≤ j ∧ j < bit + 0) := by omega
    simp only [chg]
    by_cases h : bit ≤ j
    · simp [show ¬ j < bit by omega]
    · simp [h]
  | succ i ih =>
    rw [chg, bitAt_turn _ _ _ _ (by rw [chg_length]; exact hj), ih, Bool.xor_assoc]
    congr 1
    by_cases h : j = bit + i
    · subst h; simp
    · by_cases h1 : bit ≤ j
      · by_cases h2 : j < bit + i
        · simp [h, h1, h2, show j < bit + (i + 1) by omega]
        · simp [h, h1, h2, show ¬ j < bit + (i + 1) by omega]
      · simp [h, h1]
/-- The bits of m, from bit on, in a row of n bits. -/
def burst (bit : Nat) (m : BitVec 32) (n : Nat) : List Bool := (List.range n).map fun j => decide (bit ≤ j) && (decide (j < bit + 32) && m.getLsbD (j - bit))
theorem bits_chg (l : List UInt8) (bit : Nat) (m : BitVec 32) : bitsOf (chg l bit m 32) = List.zipWith xor (bitsOf l) (burst bit m (8 * l.length)) := by
  rw [bitsOf_eq, bitsOf_eq, chg_length]
  apply List.ext_getElem
  · simp [burst]
  · intro j h1 h2
    simp at h1
    simp only [List.getElem_map, List.getElem_range, List.getElem_zipWith, burst]
    exact bitAt_chg l bit m 32 j h1
theorem steps_chg (s : BitVec 32) (l : List UInt8) (bit : Nat) (m : BitVec 32) : stepsB s (chg l bit m 32) = stepsB s l ^^^ run 0#32 (burst bit m (8 * l.length)) := by
  rw [← run_bits, ← run_bits, bits_chg, ← run_xor _ _ _ _ (by rw [bitsOf_length]; simp [burst]), BitVec.xor_zero]
theorem burst_split (bit : Nat) (m : BitVec 32) (n : Nat) (h : bit ≤ n) :
    burst bit m n = List.replicate bit false ++ ((List.range (min 32 (n - bit))).map (fun i => m.getLsbD i) ++ List.replicate (n - bit - min 32 (n - bit)) false) := by
  apply List.ext_getElem
  · simp [burst]; omega
  · intro j h1 h2
    simp [burst] at h1
    simp only [burst, List.getElem_map, List.getElem_range]
    by_cases hb : j < bit
    · rw [List.getElem_append_left (by simpa using hb)]
      simp [show ¬ bit ≤ j by omega]
    · rw [List.getElem_append_right (by simp; omega)]
      simp only [List.length_replicate]
      by_cases hw : j - bit < min 32 (n - bit)
      · rw [List.getElem_append_left (by simp; omega)]
        simp [show bit ≤ j by omega, show j < bit + 32 by omega]
      · rw [List.getElem_append_right (by simp; omega)]
        simp [show ¬ j < bit + 32 by omega]
theorem chg_none {l : List UInt8} {bit : Nat} {m : BitVec 32} (h : ∀ i, i < 32 → bit + i < 8 * l.length → m.getLsbD i = false) (i : Nat) (hi : i ≤ 32) : chg l bit m i = l := by
  induction i with
  | zero => rfl
  | succ i ih =>
    rw [chg, ih (by omega)]
    by_cases hb : bit + i < 8 * l.length
    · rw [h i (by omega) hb]; rfl
    · exact turnB_far (by omega) _
/-- A change that changes something changes what is left of the steps. -/
theorem burst_found {l : List UInt8} {bit : Nat} {m : BitVec 32} (hb : bit < 8 * l.length) (h : chg l bit m 32 ≠ l) (s : BitVec 32) : stepsB s (chg l bit m 32) ≠ stepsB s l := by
  intro e
  apply h
  have e0 : run 0#32 (burst bit m (8 * l.length)) = 0#32 := by
    rw [steps_chg] at e
    have : stepsB s l ^^^ (stepsB s l ^^^ run 0#32 (burst bit m (8 * l.length))) = stepsB s l ^^^ stepsB s l := by rw [e]
    rwa [xor_cancel, BitVec.xor_self] at this
  rw [burst_split bit m _ (by omega), run_append, run_false, iter_zero, run_append, run_false] at e0
  have e1 : run 0#32 ((List.range (min 32 (8 * l.length - bit))).map fun i => m.getLsbD i) = 0#32 := by
    apply Classical.byContradiction
    intro hne
    exact iter_ne _ hne e0
  rw [run_word _ _ (by simp; omega), BitVec.zero_xor] at e1
  have e2 : word ((List.range (min 32 (8 * l.length - bit))).map fun i => m.getLsbD i) = 0#32 := by
    apply Classical.byContradiction
    intro hne
    exact iter_ne _ hne e1
  refine chg_none (fun i hi hbi => ?_) 32 (Nat.le_refl _)
  have := word_bit ((List.range (min 32 (8 * l.length - bit))).map fun i => m.getLsbD i) i hi
  rw [e2, List.getD_eq_getElem?_getD, List.getElem?_eq_getElem (by simp; omega)] at this
  simpa using this.symm
theorem more_inj {s : BitVec 32} {a b : List UInt8} (h : moreB s a = moreB s b) : stepsB (~~~ s) a = stepsB (~~~ s) b := by
  have := congrArg (fun x : BitVec 32 => ~~~ x) h
  simpa [moreB] using this
/-- Another bit (or up to 32 in a row) makes another sum. -/
theorem sum_chg {l : List UInt8} {bit : Nat} {m : BitVec 32} (hb : bit < 8 * l.length) (h : chg l bit m 32 ≠ l) : sumB (chg l bit m 32) ≠ sumB l := fun e =>
  burst_found hb h _ (more_inj e)
/-- What is sealed (whatever the data) and then changed is not sealed. -/
theorem seal_chg {l : List UInt8} {bit : Nat} {m : BitVec 32} (h4 : 4 ≤ l.length) (hs : l.drop (l.length - 4) = putL (sumB (l.take (l.length - 4)))) (hb : bit < 8 * l.length) (h : chg l bit m 32 ≠ l) :
    (chg l bit m 32).drop (l.length - 4) ≠ putL (sumB ((chg l bit m 32).take (l.length - 4))) := by
  intro e
  have h1 := (seal_iff _ _ (by simp; omega)).1 hs
  have h2 := (seal_iff _ _ (by simp [chg_length]; omega)).1 e
  rw [List.take_append_drop] at h1 h2
  exact burst_found hb h _ (h2.trans h1.symm)
theorem turn_twice (l : List UInt8) (k : Nat) (t : Bool) : turnB (turnB l k t) k t = l := by
  unfold turnB
  cases t
  · rfl
  · simp only [if_true]
    by_cases h : k / 8 < l.length
    · rw [List.set_set]
      simp only [List.getD_eq_getElem?_getD, List.getElem?_set_self h, Option.getD_some, List.getElem?_eq_getElem h]
      rw [UInt8.xor_assoc, UInt8.xor_self, UInt8.xor_zero]
      exact List.set_getElem_self h
    · rw [List.set_eq_of_length_le (by simp; omega), List.set_eq_of_length_le (by omega)]
/-- Rows of as many bytes with the same bits are the same. -/
theorem bits_inj {a b : List UInt8} (hl : a.length = b.length) (h : ∀ j, j < 8 * a.length → bitAt a j = bitAt b j) : a = b := by
  apply List.ext_getElem hl
  intro i h1 h2
  apply UInt8.toBitVec_inj.1
  apply BitVec.eq_of_getLsbD_eq
  intro j hj
  have := h (8 * i + j) (by omega)
  unfold bitAt at this
  rw [show (8 * i + j) / 8 = i by omega, show (8 * i + j) % 8 = j by omega, List.getD_eq_getElem?_getD, List.getD_eq_getElem?_getD, List.getElem?_eq_getElem h1, List.getElem?_eq_getElem h2] at this
  exact this
theorem chg_twice (l : List UInt8) (bit : Nat) (m : BitVec 32) : chg (chg l bit m 32) bit m 32 = l := by
  apply bits_inj (by rw [chg_length, chg_length])
  intro j hj
  rw [chg_length, chg_length] at hj
  rw [bitAt_chg _ _ _ _ _ (by rw [chg_length]; exact hj), bitAt_chg _ _ _ _ _ hj]
  cases bitAt l j <;> cases (decide (bit ≤ j) && (decide (j < bit + 32) && m.getLsbD (j - bit))) <;> rfl
end Go.Proofs.Ytmafolojopjenaa.Cr
