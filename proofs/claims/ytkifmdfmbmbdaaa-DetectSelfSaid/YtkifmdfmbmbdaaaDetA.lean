/- Who seems to be down: the state; within, moves, New, Hear, Timeout. -/
import Derived.WalkKit
import Derived.Handy
import Derived.Lib.Hide
import Derived.Deep.RegionHeld3
import Derived.Deep.QuietTactic
import Derived.Deep.RegionLaw
import Derived.Deep.RegionWith
import Derived.Deep.DeepCutAuto
import Derived.BigQuiet
import Derived.IntWalk
import Derived.Test.YtkifmdfmbmbdaaaProg
import Derived.Test.YtkifmdfmbmbdaaaWWords
import Derived.Test.YtkifmdfmbmbdaaaMapLen
namespace Go.Proofs.Ytkifmdfmbmbdaaa.G
open Go.RowKit Go.Proofs.YtkifmdfmbmbdaaaW.PrintWords
set_option linter.unusedVariables false
set_option linter.unusedSimpArgs false

/-- What a call does that writes two blocks alone. -/
structure Grow2 (g M : Nat) (W W' : World) : Prop where
  os : W'.os = W.os
  tape : W'.tape = W.tape
  output : W'.output = W.output
  size : W.heap.size ≤ W'.heap.size
  block : ∀ k, k < W.heap.size → k ≠ g → k ≠ M → W'.heap[k]? = W.heap[k]?
theorem Grow2.refl (g M : Nat) (W : World) : Grow2 g M W W := ⟨rfl, rfl, rfl, Nat.le_refl _, fun _ _ _ _ => rfl⟩
theorem Grow2.trans {g M : Nat} {A B C : World} (h : Grow2 g M A B) (k : Grow2 g M B C) : Grow2 g M A C :=
  ⟨k.os.trans h.os, k.tape.trans h.tape, k.output.trans h.output, Nat.le_trans h.size k.size, fun i hi h1 h2 => (k.block i (Nat.lt_of_lt_of_le hi h.size) h1 h2).trans (h.block i hi h1 h2)⟩
theorem Grow2.of {g M : Nat} {A B : World} (h : Below A.heap.size A B) : Grow2 g M A B := ⟨h.os, h.tape, h.output, h.size, fun k hk _ _ => h.block k hk⟩
theorem Grow2.one {g M : Nat} {A B : World} (h : A.grownBy B (some g)) : Grow2 g M A B := ⟨h.os, h.tape, h.output, h.size, fun k hk h1 _ => h.block k hk (fun e => h1 (Option.some.inj e))⟩
theorem Grow2.two {g M : Nat} {A B : World} (h : A.grownBy B (some M)) : Grow2 g M A B := ⟨h.os, h.tape, h.output, h.size, fun k hk _ h2 => h.block k hk (fun e => h2 (Option.some.inj e))⟩
theorem Grow2.drew {g M : Nat} {A B : World} (h : Grow2 g M A B) : Grow2 g M A B.drew := ⟨h.os, h.tape, h.output, h.size, h.block⟩
theorem Grow2.drewN {g M : Nat} {A B : World} (h : Grow2 g M A B) (n : Nat) : Grow2 g M A (B.drewN n) := ⟨h.os, h.tape, h.output, h.size, h.block⟩
theorem Grow2.alloc {g M : Nat} {A B : World} (h : Grow2 g M A B) (o : Obj) : Grow2 g M A (B.alloc o) := h.trans (Grow2.of ((Below.refl _ B).alloc (Nat.le_refl _) o))
theorem Grow2.below {g M n : Nat} {w A B : World} (h : Below n w A) (hn : n ≤ A.heap.size) (k : Grow2 g M A B) (hg : n ≤ g) (hM : n ≤ M) : Below n w B :=
  h.trans ⟨k.os, k.tape, k.output, k.size, fun i hi => k.block i (Nat.lt_of_lt_of_le hi hn) (by omega) (by omega)⟩
theorem Grow2.blk {g M : Nat} {A B : World} (k : Grow2 g M A B) {b : Nat} {t : TypeId} {cs : Array Value} (h : Blk A b t cs) (h1 : b ≠ g) (h2 : b ≠ M) : Blk B b t cs := (k.block b h.lt h1 h2).trans h

/-! ### the state -/
structure Peer where
  last : Int
  tmo : Int
  sus : Bool
structure Det where
  self : Int
  first : Int
  most : Int
  step : Int
  now : Int
  ps : List Peer
def peerC (p : Peer) : Array Value := #[.int .u64 p.last, .int .u64 p.tmo, .bool p.sus]
def peerV (p : Peer) : Value := .agg #[.int .u64 p.last, .int .u64 p.tmo, .bool p.sus]
def detC (M : Nat) (s : Det) : Array Value := #[.map (some M), .int .i64 s.self, .int .u64 s.first, .int .u64 s.most, .int .u64 s.step, .int .u64 s.now]
theorem und_int : Try.prog.underlying 3 = some (.int .i64) := by kernel_rfl
def keyI : KeyLaw' Try.prog 3 Int := keyInt .i64 und_int
theorem und_map : Try.prog.underlying 48 = some (.map 3 47) := by kernel_rfl
theorem peer_info : (Try.prog.info? 47).map (fun i => i.zero) = some (some (.agg #[.int .u64 0, .int .u64 0, .bool false])) := by kernel_rfl
theorem peer_zero (w : World) : (zeroValue 47).run Try.prog w = .ok (.agg #[.int .u64 0, .int .u64 0, .bool false]) w := by
  obtain ⟨i, hi, hz⟩ := Option.map_eq_some_iff.1 peer_info
  simp [zeroValue, typeInfo, go_sem, hi, hz]
/-- The map of these peers. -/
def PMap (ps : List Peer) (m : List (Int × Value)) : Prop := m.length = ps.length ∧ ∀ i : Int, look m i = if 0 ≤ i then (ps[i.toNat]?).map peerV else none
def DetS (W : World) (g M : Nat) (s : Det) : Prop := Blk W g 50 (detC M s) ∧ ∃ m, MapIs keyI W M m ∧ PMap s.ps m
theorem DetS.lt {W : World} {g M : Nat} {s : Det} (h : DetS W g M s) : g < W.heap.size ∧ M < W.heap.size := ⟨h.1.lt, by obtain ⟨_, m, hm, _⟩ := h; exact hm.lt⟩
theorem DetS.ne {W : World} {g M : Nat} {s : Det} (h : DetS W g M s) : g ≠ M := by
  rintro rfl
  obtain ⟨h1, m, ⟨es, c, hb, _⟩, _⟩ := h
  cases (show W.heap[g]? = _ from h1).symm.trans hb
theorem DetS.below {W W' : World} {g M : Nat} {s : Det} (h : DetS W g M s) (hb : Below W.heap.size W W') : DetS W' g M s := by
  obtain ⟨h1, m, hm, hp⟩ := h
  exact ⟨h1.callee hb, m, hm.callee hb, hp⟩
theorem DetS.set {W : World} {g M : Nat} {s s' : Det} (h : DetS W g M s) (i : Nat) (u : Value) (e : (detC M s).setIfInBounds i u = detC M s') (hp : s'.ps = s.ps) : DetS (W.setCell ⟨g, i, none⟩ u) g M s' := by
  have hne := h.ne
  obtain ⟨h1, m, hm, hq⟩ := h
  exact ⟨by have := h1.set_ i u; rwa [e] at this, m, hm.setCell hne u, hp ▸ hq⟩
theorem DetS.far {W : World} {g M : Nat} {s : Det} (h : DetS W g M s) {p : Addr} (h1 : p.block ≠ g) (h2 : p.block ≠ M) (u : Value) : DetS (W.setCell p u) g M s := by
  obtain ⟨h3, m, hm, hp⟩ := h
  exact ⟨h3.far (Ne.symm h1) u, m, hm.setCell h2 u, hp⟩
/-- What is read of a node. -/
def atP (s : Det) (i : Int) : Option Peer := if 0 ≤ i then s.ps[i.toNat]? else none
def zP : Peer := ⟨0, 0, false⟩
theorem DetS.look {W : World} {g M : Nat} {s : Det} (h : DetS W g M s) (i : Int) (c : Bool) :
    (Instr.lookup 48 (.map (some M)) (.int .i64 i) c).run Try.prog W = .ok (if c then .tuple #[peerV ((atP s i).getD zP), .bool (atP s i).isSome] else peerV ((atP s i).getD zP)) W := by
  obtain ⟨_, m, hm, _, hp⟩ := h
  have := hm.lookup und_map peer_zero i c
  rw [hp i] at this
  refine (show (Instr.lookup 48 (.map (some M)) (keyI.enc i) c).run Try.prog W = _ from this).trans ?_
  have e : (if 0 ≤ i then (s.ps[i.toNat]?).map peerV else none) = (atP s i).map peerV := by unfold atP; split <;> rfl
  rw [e]
  cases atP s i <;> rfl
theorem DetS.len {W : World} {g M : Nat} {s : Det} (h : DetS W g M s) (ty : TypeId) : (Builtin.len_ #[48] ty #[.map (some M)]).run Try.prog W = .ok (.int .i64 s.ps.length) W := by
  obtain ⟨_, m, hm, hl, _⟩ := h
  rw [hm.len und_map ty, hl]
theorem pmap_put {ps : List Peer} {m : List (Int × Value)} (h : PMap ps m) (i : Nat) (hi : i < ps.length) (p : Peer) : PMap (ps.set i p) (put m (i : Int) (peerV p)) := by
  constructor
  · have : (look m (i : Int)).isSome := by rw [h.2, if_pos (by omega)]; simp [hi]
    unfold put
    rw [if_pos this, List.length_map, List.length_set]
    exact h.1
  · intro j
    rw [look_put, h.2]
    by_cases hj : j = (i : Int)
    · subst hj
      simp [hi]
    · rw [if_neg hj]
      by_cases h0 : 0 ≤ j
      · rw [if_pos h0, if_pos h0, List.getElem?_set]
        rw [if_neg (by omega)]
      · rw [if_neg h0, if_neg h0]
theorem pmap_push {ps : List Peer} {m : List (Int × Value)} (h : PMap ps m) (p : Peer) : PMap (ps ++ [p]) (put m (ps.length : Int) (peerV p)) := by
  have hn : look m (ps.length : Int) = none := by rw [h.2, if_pos (by omega)]; simp
  constructor
  · unfold put
    rw [hn]
    simp [h.1]
  · intro j
    rw [look_put, h.2]
    by_cases hj : j = (ps.length : Int)
    · subst hj
      simp
    · rw [if_neg hj]
      by_cases h0 : 0 ≤ j
      · rw [if_pos h0, if_pos h0, List.getElem?_append]
        split
        · rfl
        · rename_i hl
          have : ps[j.toNat]? = none := by simp; omega
          rw [this, List.getElem?_eq_none (by simp; omega)]
      · rw [if_neg h0, if_neg h0]
/-- 'd.peers[i] = p'. -/
theorem DetS.update {W : World} {g M : Nat} {s : Det} (h : DetS W g M s) (i : Nat) (hi : i < s.ps.length) (p : Peer) :
    ∃ W', (Instr.mapUpdate 48 (.map (some M)) (.int .i64 i) (.agg #[.int .u64 p.last, .int .u64 p.tmo, .bool p.sus])).run Try.prog W = .ok () W' ∧ DetS W' g M { s with ps := s.ps.set i p } ∧ W.grownBy W' (some M) ∧ W'.heap.size = W.heap.size := by
  have hne := h.ne
  obtain ⟨h1, m, hm, hp⟩ := h
  obtain ⟨W', hr, hm', hg, hs⟩ := hm.update und_map (i : Int) (peerV p)
  exact ⟨W', hr, ⟨h1.kept hg (fun e => hne (Option.some.inj e)), _, hm', pmap_put hp i hi p⟩, hg, hs⟩
/-! ### within -/
set_option maxRecDepth 100000 in
set_option maxHeartbeats 1000000 in
theorem within1 (m x : Int) (B : Nat) (w : World) (h : w.cell? ⟨B, 0, none⟩ = some (.int .u64 x)) :
    Calls Try.prog 21 #[.int .u64 m, .slice (some ⟨B, 0, none⟩) 1 1] w fun e w' => e = .returned (.bool (decide (x ≤ m))) ∧ w = w' := by
  by_cases hx : m < x
  · have hd : decide (x ≤ m) = false := by simpa using hx
    rw [hd]
    have hdx : decide (m < x) = true := by simpa using hx
    clear hx hd
    go_enter Try.func21, Try.ntmps21
    go_wp2
    refine wp_loop_rounds 2 ?_
    rw [rounds_succ]
    go_wp2
    go_ret
    exact ⟨rfl, rfl⟩
  · have hd : decide (x ≤ m) = true := by simp; omega
    rw [hd]
    have hdx : decide (m < x) = false := by simpa using hx
    clear hx hd
    go_enter Try.func21, Try.ntmps21
    go_wp2
    refine wp_loop_rounds 2 ?_
    rw [rounds_succ]
    go_wp2
    rw [rounds_succ]
    go_wp2
    go_ret
    exact ⟨rfl, rfl⟩
set_option maxRecDepth 100000 in
set_option maxHeartbeats 2000000 in
theorem within3 (m x y z : Int) (B : Nat) (w : World) (h0 : w.cell? ⟨B, 0, none⟩ = some (.int .u64 x)) (h1 : w.cell? ⟨B, 1, none⟩ = some (.int .u64 y)) (h2 : w.cell? ⟨B, 2, none⟩ = some (.int .u64 z)) :
    Calls Try.prog 21 #[.int .u64 m, .slice (some ⟨B, 0, none⟩) 3 3] w fun e w' => e = .returned (.bool (decide (x ≤ m ∧ y ≤ m ∧ z ≤ m))) ∧ w = w' := by
  by_cases hx : m < x
  · have hd : decide (x ≤ m ∧ y ≤ m ∧ z ≤ m) = false := by simp; omega
    rw [hd]
    have hdx : decide (m < x) = true := by simpa using hx
    clear hx hd
    go_enter Try.func21, Try.ntmps21
    go_wp2
    refine wp_loop_rounds 4 ?_
    rw [rounds_succ]
    go_wp2
    go_ret
    exact ⟨rfl, rfl⟩
  · by_cases hy : m < y
    · have hd : decide (x ≤ m ∧ y ≤ m ∧ z ≤ m) = false := by simp; omega
      rw [hd]
      have hdx : decide (m < x) = false := by simpa using hx
      have hdy : decide (m < y) = true := by simpa using hy
      clear hx hy hd
      go_enter Try.func21, Try.ntmps21
      go_wp2
      refine wp_loop_rounds 4 ?_
      rw [rounds_succ]
      go_wp2
      rw [rounds_succ]
      go_wp2
      go_ret
      exact ⟨rfl, rfl⟩
    · by_cases hz : m < z
      · have hd : decide (x ≤ m ∧ y ≤ m ∧ z ≤ m) = false := by simp; omega
        rw [hd]
        have hdx : decide (m < x) = false := by simpa using hx
        have hdy : decide (m < y) = false := by simpa using hy
        have hdz : decide (m < z) = true := by simpa using hz
        clear hx hy hz hd
        go_enter Try.func21, Try.ntmps21
        go_wp2
        refine wp_loop_rounds 4 ?_
        rw [rounds_succ]
        go_wp2
        rw [rounds_succ]
        go_wp2
        rw [rounds_succ]
        go_wp2
        go_ret
        exact ⟨rfl, rfl⟩
      · have hd : decide (x ≤ m ∧ y ≤ m ∧ z ≤ m) = true := by simp; omega
        rw [hd]
        have hdx : decide (m < x) = false := by simpa using hx
        have hdy : decide (m < y) = false := by simpa using hy
        have hdz : decide (m < z) = false := by simpa using hz
        clear hx hy hz hd
        go_enter Try.func21, Try.ntmps21
        go_wp2
        refine wp_loop_rounds 4 ?_
        rw [rounds_succ]
        go_wp2
        rw [rounds_succ]
        go_wp2
        rw [rounds_succ]
        go_wp2
        rw [rounds_succ]
        go_wp2
        go_ret
        exact ⟨rfl, rfl⟩
/-! ### moves -/
def movesF (s : Det) (t : Int) : Det × Int := if t < s.now ∨ 1152921504606846976 < t then (s, 70) else ({ s with now := t }, 0)
set_option maxRecDepth 100000 in
set_option maxHeartbeats 2000000 in
theorem moves.is (g M : Nat) (s : Det) (t : Int) (w : World) (h : DetS w g M s) :
    Calls Try.prog 16 #[.pointer (some ⟨g, 0, none⟩), .int .u64 t] w fun e w' => e = .returned (.int .i64 (movesF s t).2) ∧ DetS w' g M (movesF s t).1 ∧ Grow2 g M w w' := by
  have c5 : w.cell? ⟨g, 5, none⟩ = some (.int .u64 s.now) := h.1.cell 5
  by_cases h1 : t < s.now
  · have hf : movesF s t = (s, 70) := by unfold movesF; rw [if_pos (.inl h1)]
    rw [hf]
    have hd : decide (t < s.now) = true := by simpa using h1
    clear h1 hf
    go_enter Try.func16, Try.ntmps16
    go_wp2
    go_ret
    exact ⟨rfl, h, Grow2.refl _ _ _⟩
  · have hd : decide (t < s.now) = false := by simpa using h1
    have hb : Below w.heap.size w (w.alloc (.cells #[.int .u64 t] 22)) := (Below.refl _ w).alloc (Nat.le_refl _) _
    have h2 := h.below hb
    have b5 := h2.1.cell 5
    have f5 := h2.1.frozen 5
    have lt := h2.lt
    by_cases h3 : t ≤ 1152921504606846976
    · have hf : movesF s t = ({ s with now := t }, 0) := by unfold movesF; rw [if_neg (by omega)]
      rw [hf]
      have hd2 : decide (t ≤ 1152921504606846976) = true := by simpa using h3
      have hs := h2.set (s' := { s with now := t }) 5 (.int .u64 t) rfl rfl
      have hg : Grow2 g M w ((w.alloc (.cells #[.int .u64 t] 22)).setCell ⟨g, 5, none⟩ (.int .u64 t)) := (Grow2.of hb).trans (Grow2.one (grown_set _ ⟨g, 5, none⟩ _))
      have HH := Lib.hid h3; clear h3
      have HF := Lib.hid hf; clear hf
      clear h1
      go_enter Try.func16, Try.ntmps16
      go_wp2_with (go_at_call 21; (with_reducible refine (within1 _ t _ _ (by simp)).mono ?_); rintro e w' ⟨rfl, rfl⟩)
      go_ret
      exact ⟨rfl, hs, hg⟩
    · have hf : movesF s t = (s, 70) := by unfold movesF; rw [if_pos (by omega)]
      rw [hf]
      have hd2 : decide (t ≤ 1152921504606846976) = false := by simpa using h3
      have HH := Lib.hid h3; clear h3
      have HF := Lib.hid hf; clear hf
      clear h1
      go_enter Try.func16, Try.ntmps16
      go_wp2_with (go_at_call 21; (with_reducible refine (within1 _ t _ _ (by simp)).mono ?_); rintro e w' ⟨rfl, rfl⟩)
      go_ret
      exact ⟨rfl, h2, Grow2.of hb⟩
end Go.Proofs.Ytkifmdfmbmbdaaa.G
