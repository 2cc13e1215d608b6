/- Slices that are read: their beginnings, their ends, what is appended to one that has no room. -/
import Derived.Deep.AppendSrc
import Derived.Deep.Slices
import Derived.Deep.DeepAppendWide
import Derived.Laws.AppendOwn
import Derived.Laws.AppendOwnNone
import Derived.Lib.AppendZerosOnto
import Derived.Test.YtkifmdfmbmbdaaaWWords
import Derived.Test.YtkifmdfmbmbdaaaLib
namespace Go.Proofs.Ytkifmdfmbmbdaaa.G
open Go.RowKit Go.Proofs.YtkifmdfmbmbdaaaW.PrintWords
section
variable {α : Type} {d : Kd α} {w : World} {A : Option Addr} {n : Nat} {l : List α}
theorem C_take (h : Kd.C d w A n l) (m : Nat) (hm : m ≤ n) : Kd.C d w A m (l.take m) := by
  obtain ⟨h1, h2, h3⟩ := h
  refine ⟨by rw [List.length_take]; omega, by omega, fun h0 => ?_⟩
  obtain ⟨ad, e, hc⟩ := h3 (by omega)
  refine ⟨ad, e, fun j p hj => hc j p ?_⟩
  rw [List.getElem?_take] at hj
  split at hj
  · exact hj
  · cases hj
theorem C_drop (h : Kd.C d w A n l) (m : Nat) (hm : m ≤ n) : Kd.C d w (A.map fun x => x.add (m * d.sz)) (n - m) (l.drop m) := by
  obtain ⟨h1, h2, h3⟩ := h
  refine ⟨by rw [List.length_drop]; omega, by omega, fun h0 => ?_⟩
  obtain ⟨ad, e, hc⟩ := h3 (by omega)
  refine ⟨ad.add (m * d.sz), by rw [e]; rfl, fun j p hj => ?_⟩
  rw [List.getElem?_drop] at hj
  obtain ⟨c, hl, hk, hcell⟩ := hc (m + j) p hj
  refine ⟨c, hl, hk, fun i u hu => ?_⟩
  have := hcell i u hu
  rw [show (ad.add (m * d.sz)).add (j * d.sz + i) = ad.add ((m + j) * d.sz + i) by rw [Go.Deep.add_add, Nat.add_mul, Nat.add_assoc]]
  exact this
theorem reps_chunk {R : α → List Value → Prop} {sz : Nat} {inner : List Value} (hr : Reps R sz l inner) (hlen : ∀ p c, R p c → c.length = sz) {j : Nat} {p : α} (hj : l[j]? = some p) : ∃ c, c.length = sz ∧ R p c ∧ ∀ i u, c[i]? = some u → inner[j * sz + i]? = some u := by
  have hk := hr.2 j p hj
  refine ⟨_, hlen _ _ hk, hk, fun i u hu => ?_⟩
  have hi : i < sz := by
    have := (List.getElem?_eq_some_iff.1 hu).1
    rwa [hlen _ _ hk] at this
  rw [List.getElem?_take_of_lt hi, List.getElem?_drop] at hu
  exact hu
/-- The elements' cells, whatever the slice's address. -/
theorem C_inner (h : Kd.C d w A n l) : ∃ inner, Reps (d.K w) d.sz l inner ∧ (∀ u ∈ inner, u.oneCell' = true) ∧ (∀ ad, A = some ad → ∀ j u, inner[j]? = some u → w.cell? (ad.add j) = some u) ∧ (A = none → inner = []) := by
  have key : ∃ inner, Reps (d.K w) d.sz l inner ∧ (∀ ad, A = some ad → ∀ j u, inner[j]? = some u → w.cell? (ad.add j) = some u) ∧ (A = none → inner = []) := by
    cases A with
    | none =>
      have hl : l = [] := by
        rcases Nat.eq_zero_or_pos n with h0 | h0
        · exact List.length_eq_zero_iff.1 (h.1.trans h0)
        · obtain ⟨ad, e, _⟩ := h.2.2 h0
          cases e
      subst hl
      exact ⟨[], Reps.none _ _, fun ad e => (by cases e), fun _ => rfl⟩
    | some ad =>
      obtain ⟨inner, h1, h2⟩ := ReadsRow.inner_ h
      exact ⟨inner, h1, fun ad' e => (by cases e; exact h2), fun e => by cases e⟩
  obtain ⟨inner, h1, h2, h3⟩ := key
  refine ⟨inner, h1, fun u hu => ?_, h2, h3⟩
  obtain ⟨k, hk, rfl⟩ := List.getElem_of_mem hu
  have hs : 0 < d.sz := by
    rcases Nat.eq_zero_or_pos d.sz with h0 | h0
    · rw [h1.1, h0, Nat.mul_zero] at hk; omega
    · exact h0
  have hj : k / d.sz < l.length := Nat.div_lt_of_lt_mul (by rw [Nat.mul_comm, ← h1.1]; exact hk)
  have hkk := h1.2 (k / d.sz) _ (List.getElem?_eq_getElem hj)
  refine d.K_one hkk _ ?_
  have hm : k % d.sz < d.sz := Nat.mod_lt _ hs
  have he : k / d.sz * d.sz + k % d.sz = k := Nat.div_add_mod' k d.sz
  refine List.mem_of_getElem? (i := k % d.sz) ?_
  rw [List.getElem?_take_of_lt hm, List.getElem?_drop, he, List.getElem?_eq_getElem hk]
/-- A new block that begins with these elements' cells. -/
theorem C_new {W : World} {g : Nat} {e : TypeId} {inner rest : List Value} (hr : Reps (d.K W) d.sz l inner) (hb : W.heap[g]? = some (.cells (inner ++ rest).toArray e (0, 0))) (hn : l.length ≤ 9223372036854775807) : Kd.C d W (some ⟨g, 0, none⟩) l.length l := by
  refine ⟨rfl, hn, fun _ => ⟨_, rfl, fun j p hj => ?_⟩⟩
  obtain ⟨c, hl, hk, hc⟩ := reps_chunk hr (fun _ _ h => d.K_len h) hj
  refine ⟨c, hl, hk, fun i u hu => ?_⟩
  have := hc i u hu
  rw [show (⟨g, 0, none⟩ : Addr).add (j * d.sz + i) = ⟨g, j * d.sz + i, none⟩ by simp [Addr.add]; intro h1 h2; omega]
  have hlt := (List.getElem?_eq_some_iff.1 this).1
  simp only [World.cell?, hb]
  simp [List.getElem?_append_left hlt, this]
end
section
variable {P : Program} {α : Type} {d : Kd α}
theorem reps_append {R : α → List Value → Prop} {sz : Nat} {l m : List α} {a b : List Value} (ha : Reps R sz l a) (hb : Reps R sz m b) : Reps R sz (l ++ m) (a ++ b) := by
  refine ⟨by rw [List.length_append, List.length_append, ha.1, hb.1, Nat.add_mul], fun j p hj => ?_⟩
  rcases Nat.lt_or_ge j l.length with h | h
  · rw [List.getElem?_append_left h] at hj
    have h1 : j * sz + sz ≤ a.length := by rw [ha.1, ← Nat.succ_mul]; exact Nat.mul_le_mul_right _ h
    rw [List.drop_append_of_le_length (by omega), List.take_append_of_le_length (by rw [List.length_drop]; omega)]
    exact ha.2 j p hj
  · rw [List.getElem?_append_right h] at hj
    have h1 : a.length ≤ j * sz := by rw [ha.1]; exact Nat.mul_le_mul_right _ h
    rw [List.drop_append, List.drop_of_length_le h1, List.nil_append, ha.1, ← Nat.sub_mul]
    exact hb.2 _ p hj
theorem firstCells_of {w W : World} {A : Option Addr} {n c : Nat} {l : List α} {inner : List Value} (hr : Reps (d.K w) d.sz l inner) (hn : l.length = n) (hc : ∀ ad, A = some ad → ∀ j u, inner[j]? = some u → W.cell? (ad.add j) = some u) (h0 : A = none → inner = []) :
    (Builtin.firstCells d.sz n (.slice A n c)).run P W = .ok inner.toArray W := by
  cases A with
  | none => rw [h0 rfl]; exact run_firstCells_none W d.sz n n c
  | some ad => exact run_firstCells_some W d.sz n ad n c inner (by rw [hr.1, hn]) (hc ad rfl)
/-- 'append(x, y...)', where x has no room left and y is not empty: a new row. -/
theorem append_full {W : World} (t ty e : TypeId) (z : Value) (bytes : Nat) (ht : P.underlying t = some (.slice e)) (hinfo : (P.info? e).map (fun i => (i.zero, i.size, i.bytes)) = some (some z, d.sz, bytes))
    {A B : Option Addr} {l m : List α} {c : Nat} (hA : Kd.C d W A l.length l) (hB : Kd.C d W B m.length m) (hm : 0 < m.length) (h63 : l.length + m.length ≤ 1000000) (hby : bytes ≤ 1000) :
    ∃ cap W', (Builtin.append_ #[t, t] ty #[.slice A l.length l.length, .slice B m.length c]).run P W = .ok (.slice (some ⟨W.heap.size, 0, none⟩) (l.length + m.length) cap) W' ∧
      Kd.C d W' (some ⟨W.heap.size, 0, none⟩) (l ++ m).length (l ++ m) ∧ (l ++ m).length ≤ cap ∧ Below W.heap.size W W' := by
  obtain ⟨i0, hi, hzz⟩ := Option.map_eq_some_iff.1 hinfo
  simp only [Prod.mk.injEq] at hzz
  obtain ⟨hz0, hz1, hz2⟩ := hzz
  obtain ⟨in1, r1, o1, c1, n1⟩ := C_inner hA
  obtain ⟨in2, r2, o2, c2, n2⟩ := C_inner hB
  obtain ⟨b, rfl⟩ : ∃ b, B = some b := by obtain ⟨ad, e, _⟩ := hB.2.2 hm; exact ⟨ad, e⟩
  have hs : Src P i0.size t (.slice (some b) m.length c) m.length in2 W := Src.ofSlice W ht b m.length c in2 (by rw [r2.1, hz1]) (c2 b rfl) o2
  have hold : (Builtin.firstCells i0.size l.length (.slice A l.length l.length)).run P W.drew = .ok in1.toArray W.drew := by
    rw [hz1]; exact firstCells_of r1 rfl (fun ad e j u hj => c1 ad e j u hj) n1
  have hn := nextslicecap_le_wide (need := l.length + m.length) (old := l.length) (by omega)
  have hrun := run_append_grow_src W t t ty e i0 z ht hi hz0 A l.length l.length in1 hold (.slice (some b) m.length c) m.length in2 hs (by omega) (by omega) (by
    rw [hz2]
    exact Nat.le_trans (Nat.mul_le_mul hn hby) (by omega))
  refine ⟨_, _, hrun, ?_, ?_, ?_⟩
  · have hb := World.alloc_heap_new W.drew (.cells ((in1 ++ in2).toArray ++ Builtin.zeroCells z.cells (grownCap W (l.length + m.length) l.length e - (l.length + m.length))) e)
    have hbel : Below W.heap.size W (W.drew.alloc (.cells ((in1 ++ in2).toArray ++ Builtin.zeroCells z.cells (grownCap W (l.length + m.length) l.length e - (l.length + m.length))) e)) := ((Below.refl _ W).drew).alloc (Nat.le_refl _) _
    refine C_new (rest := (Builtin.zeroCells z.cells (grownCap W (l.length + m.length) l.length e - (l.length + m.length))).toList) (e := e) ((reps_append r1 r2).imp_ fun p c h => d.K_below hbel h) ?_ (by rw [List.length_append]; omega)
    have e1 : (in1 ++ in2 ++ (Builtin.zeroCells z.cells (grownCap W (l.length + m.length) l.length e - (l.length + m.length))).toList).toArray = (in1 ++ in2).toArray ++ Builtin.zeroCells z.cells (grownCap W (l.length + m.length) l.length e - (l.length + m.length)) := by
      apply Array.ext'
      simp
    rw [e1]
    exact hb
  · rw [List.length_append]; exact grownCap_ge W _ _ _
  · exact ((Below.refl _ W).drew).alloc (Nat.le_refl _) _
/-- The same, told as a row of the call's own. -/
theorem append_full_R {W : World} (t ty e : TypeId) (z : Value) (bytes : Nat) (ht : P.underlying t = some (.slice e)) (hinfo : (P.info? e).map (fun i => (i.zero, i.size, i.bytes)) = some (some z, d.sz, bytes)) (hz : z.cells.size = d.sz)
    (hKM : ∀ w base ok x cs, d.K w x cs → d.M w base ok x cs)
    {A B : Option Addr} {l m : List α} {c : Nat} (hA : Kd.C d W A l.length l) (hB : Kd.C d W B m.length m) (hm : 0 < m.length) (h63 : l.length + m.length ≤ 1000000000000) (hby : bytes ≤ 100) :
    ∃ v W', (Builtin.append_ #[t, t] ty #[.slice A l.length l.length, .slice B m.length c]).run P W = .ok v W' ∧
      Kd.R d e W' W.heap.size (fun _ => True) v (l ++ m) ∧ Below W.heap.size W W' := by
  obtain ⟨i0, hi, hzz⟩ := Option.map_eq_some_iff.1 hinfo
  simp only [Prod.mk.injEq] at hzz
  obtain ⟨hz0, hz1, hz2⟩ := hzz
  obtain ⟨in1, r1, o1, c1, n1⟩ := C_inner hA
  obtain ⟨in2, r2, o2, c2, n2⟩ := C_inner hB
  obtain ⟨b, rfl⟩ : ∃ b, B = some b := by obtain ⟨ad, e, _⟩ := hB.2.2 hm; exact ⟨ad, e⟩
  have hs : Src P i0.size t (.slice (some b) m.length c) m.length in2 W := Src.ofSlice W ht b m.length c in2 (by rw [r2.1, hz1]) (c2 b rfl) o2
  have hold : (Builtin.firstCells i0.size l.length (.slice A l.length l.length)).run P W.drew = .ok in1.toArray W.drew := by
    rw [hz1]; exact firstCells_of r1 rfl (fun ad e j u hj => c1 ad e j u hj) n1
  have hn := nextslicecap_le_wide (need := l.length + m.length) (old := l.length) (by omega)
  have hrun := run_append_grow_src W t t ty e i0 z ht hi hz0 A l.length l.length in1 hold (.slice (some b) m.length c) m.length in2 hs (by omega) (by omega) (by
    rw [hz2]
    exact Nat.le_trans (Nat.mul_le_mul hn hby) (by omega))
  have hbel : Below W.heap.size W (W.drew.alloc (.cells ((in1 ++ in2).toArray ++ Builtin.zeroCells z.cells (grownCap W (l.length + m.length) l.length e - (l.length + m.length))) e)) := ((Below.refl _ W).drew).alloc (Nat.le_refl _) _
  have hge := grownCap_ge W (l.length + m.length) l.length e
  have hlen : (in1 ++ in2).length = (l ++ m).length * d.sz := by rw [List.length_append, List.length_append, r1.1, r2.1, Nat.add_mul]
  refine ⟨_, _, hrun, ⟨fun _ _ => trivial, in1 ++ in2, ⟨hlen, .inr ⟨W.heap.size, grownCap W (l.length + m.length) l.length e, _, by rw [List.length_append], Nat.le_refl _, World.alloc_heap_new W.drew _, ?_, grownCap_le_maxLen W _ _ _ (by unfold maxLen; omega), ?_, ?_⟩⟩, ?_⟩, hbel⟩
  · rw [List.length_append]; exact hge
  · rw [Array.size_append, List.size_toArray, hlen, size_zeroCells, hz, List.length_append, ← Nat.add_mul]
    congr 1
    omega
  · rw [Array.toList_append, ← hlen]
    exact List.take_left
  · exact (reps_append r1 r2).imp_ fun p c h => hKM _ _ _ _ _ (d.K_below hbel h)
theorem C_one {W : World} {x : α} {cs : List Value} (hk : d.K W x cs) (e : TypeId) : Kd.C d (W.alloc (.cells cs.toArray e)) (some ⟨W.heap.size, 0, none⟩) ([x] : List α).length [x] := by
  have hb := World.alloc_heap_new W (.cells cs.toArray e)
  refine C_new (rest := []) (e := e) (inner := cs) ?_ (by rw [List.append_nil]; exact hb) (by simp)
  have hbel : Below W.heap.size W (W.alloc (.cells cs.toArray e)) := (Below.refl _ W).alloc (Nat.le_refl _) _
  refine ⟨by rw [d.K_len hk]; simp, fun j p hj => ?_⟩
  obtain rfl : j = 0 := by
    have := (List.getElem?_eq_some_iff.1 hj).1
    simpa using this
  simp only [List.getElem?_cons_zero, Option.some.injEq] at hj
  subst hj
  rw [Nat.zero_mul, List.drop_zero, List.take_of_length_le (by rw [d.K_len hk]; exact Nat.le_refl _)]
  exact d.K_below hbel hk
/-- A kind whose elements' cells tell the same in every world. -/
structure PlainK {α : Type} (d : Kd α) : Prop where
  km : ∀ {W W' : World} {base : Nat} {ok : Nat → Prop} {x : α} {cs : List Value}, d.K W x cs → d.M W' base ok x cs
theorem plain_str : PlainK Kd.string := ⟨fun h => h⟩
/-- 'append(x, y...)' to a row of the call's own. -/
theorem append_own_R {W : World} (t ty e : TypeId) (z : Value) (bytes : Nat) (ht : P.underlying t = some (.slice e)) (hinfo : (P.info? e).map (fun i => (i.zero, i.size, i.bytes)) = some (some z, d.sz, bytes)) (hz : z.cells.size = d.sz) (hsz : 0 < d.sz)
    (hP : PlainK d) {base : Nat} {v : Value} {l m : List α} {B : Option Addr} {c : Nat} (hv : Kd.R d e W base (fun _ => True) v l) (hB : Kd.C d W B m.length m) (hN : B = none → c = 0) (h63 : l.length + m.length ≤ 1000000000000) (hby : bytes ≤ 100) (hbase : base ≤ W.heap.size) :
    ∃ v' W', (Builtin.append_ #[t, t] ty #[v, .slice B m.length c]).run P W = .ok v' W' ∧ Kd.R d e W' base (fun _ => True) v' (l ++ m) ∧ W.grownBy W' v.ownBlock := by
  obtain ⟨i0, hi, hzz⟩ := Option.map_eq_some_iff.1 hinfo
  simp only [Prod.mk.injEq] at hzz
  obtain ⟨hz0, hz1, hz2⟩ := hzz
  obtain ⟨_, inner, ho, hr⟩ := hv
  obtain ⟨in2, r2, o2, c2, n2⟩ := C_inner hB
  have hbb : (l.length + m.length) * bytes ≤ 140737488355328 := Nat.le_trans (Nat.mul_le_mul h63 hby) (by omega)
  cases B with
  | none =>
    have hm : m = [] := by
      rcases Nat.eq_zero_or_pos m.length with h0 | h0
      · exact List.length_eq_zero_iff.1 h0
      · obtain ⟨ad, e, _⟩ := hB.2.2 h0; cases e
    subst hm
    rw [hN rfl]
    refine ⟨v, W, run_append_owned_none (P := P) (w := W) base t ty e i0 d.sz ht hi v l.length inner ho, ?_, ⟨rfl, rfl, rfl, Nat.le_refl _, fun _ _ _ => rfl⟩⟩
    rw [List.append_nil]
    exact ⟨fun _ _ => trivial, inner, ho, hr⟩
  | some ad =>
    obtain ⟨v', W', hrun, hown, hg, _⟩ := run_append_own (P := P) W base t ty e i0 z d.sz bytes ht hi hz0 hz1 hz2 hz hsz v l.length inner ho ad m.length c in2 (by rw [r2.1]) (c2 ad rfl) o2 (by unfold maxLen; omega) hbb hbase
    refine ⟨v', W', hrun, ⟨fun _ _ => trivial, inner ++ in2, by rw [List.length_append]; exact hown, ?_⟩, hg⟩
    exact reps_append (hr.imp_ fun p c h => hP.km (d.K_of_M h)) (r2.imp_ fun p c h => hP.km h)
end
end Go.Proofs.Ytkifmdfmbmbdaaa.G
