/- Maps of the program's own, as lists of keys and values: what a look-up, a store, a deletion do. No program. -/
import Derived.MapKept
import Derived.Laws.StructEq
import Derived.RangeFuncWrites
import Derived.Test.YtkifmdfmbmbdaaaLib
namespace Go.Proofs.Ytkifmdfmbmbdaaa.G
open Go.RowKit

/-! ### rows of keys and values -/
section
variable {κ α : Type} [DecidableEq κ]
def look (m : List (κ × α)) (k : κ) : Option α := (m.find? fun p => decide (p.1 = k)).map (·.2)
def put (m : List (κ × α)) (k : κ) (v : α) : List (κ × α) := if (look m k).isSome then m.map (fun p => if p.1 = k then (k, v) else p) else m ++ [(k, v)]
def del (m : List (κ × α)) (k : κ) : List (κ × α) := m.filter fun p => decide (p.1 ≠ k)
theorem look_nil (k : κ) : look ([] : List (κ × α)) k = none := rfl
theorem look_cons (p : κ × α) (m : List (κ × α)) (k : κ) : look (p :: m) k = if p.1 = k then some p.2 else look m k := by
  unfold look
  by_cases h : p.1 = k <;> simp [h]
theorem look_append (a b : List (κ × α)) (k : κ) : look (a ++ b) k = (look a k).or (look b k) := by
  induction a with
  | nil => simp [look]
  | cons p a ih => rw [List.cons_append, look_cons, look_cons, ih]; split <;> rfl
theorem look_map (m : List (κ × α)) (k : κ) (v : α) (x : κ) : look (m.map fun p => if p.1 = k then (k, v) else p) x = if x = k then (if (look m k).isSome then some v else none) else look m x := by
  induction m with
  | nil => simp [look]
  | cons p m ih =>
    rw [List.map_cons, look_cons, ih, look_cons, look_cons]
    by_cases hx : x = k
    · subst hx
      by_cases hp : p.1 = x <;> simp [hp]
    · by_cases hp : p.1 = k
      · have : ¬ k = x := fun e => hx e.symm
        simp [hp, hx, this]
      · simp [hp, hx]
theorem look_put (m : List (κ × α)) (k : κ) (v : α) (x : κ) : look (put m k v) x = if x = k then some v else look m x := by
  unfold put
  by_cases h : (look m k).isSome
  · rw [if_pos h, look_map, if_pos h]
  · rw [if_neg h, look_append, look_cons, look_nil]
    by_cases hx : x = k
    · subst hx
      have : look m x = none := by simpa using h
      simp [this]
    · have : ¬ k = x := fun e => hx e.symm
      simp [hx, this]
theorem look_del (m : List (κ × α)) (k x : κ) : look (del m k) x = if x = k then none else look m x := by
  unfold del
  induction m with
  | nil => simp [look]
  | cons p m ih =>
    rw [look_cons]
    by_cases hp : p.1 = k
    · rw [List.filter_cons_of_neg (by simpa using hp), ih]
      by_cases hx : x = k
      · simp [hx]
      · have : ¬ p.1 = x := fun e => hx (e ▸ hp)
        simp [hx, this]
    · rw [List.filter_cons_of_pos (by simpa using hp), look_cons, ih]
      by_cases hx : x = k
      · subst hx; simp [hp]
      · simp [hx]
def keysOf (m : List (κ × α)) : List κ := m.map (·.1)
theorem look_none_iff (m : List (κ × α)) (k : κ) : look m k = none ↔ k ∉ keysOf m := by
  induction m with
  | nil => simp [look, keysOf]
  | cons p m ih =>
    rw [look_cons]
    unfold keysOf at ih ⊢
    by_cases h : p.1 = k
    · simp [h]
    · have : ¬ k = p.1 := fun e => h e.symm
      simp [h, ih, this]
theorem keysOf_put (m : List (κ × α)) (k : κ) (v : α) : keysOf (put m k v) = if (look m k).isSome then keysOf m else keysOf m ++ [k] := by
  unfold put keysOf
  split
  · rw [List.map_map]
    apply List.map_congr_left
    intro p _
    simp only [Function.comp]
    split <;> simp_all
  · simp
theorem nodup_put {m : List (κ × α)} (h : (keysOf m).Nodup) (k : κ) (v : α) : (keysOf (put m k v)).Nodup := by
  rw [keysOf_put]
  split
  · exact h
  · rename_i hn
    have : look m k = none := by simpa using hn
    rw [List.nodup_append]
    refine ⟨h, by simp, fun a ha b hb => ?_⟩
    simp at hb
    subst hb
    rintro rfl
    exact (look_none_iff m a).1 this ha
theorem nodup_del {m : List (κ × α)} (h : (keysOf m).Nodup) (k : κ) : (keysOf (del m k)).Nodup := by
  unfold del keysOf at *
  exact List.Sublist.nodup (List.Sublist.map _ List.filter_sublist) h
end

/-! ### keys as the machine has them -/
structure KeyLaw' (P : Program) (K : TypeId) (κ : Type) [DecidableEq κ] where
  enc : κ → Value
  check : ∀ (e : Bool) (k : κ) (w : World), (Instr.checkKey e 10000 K (enc k)).run P w = .ok () w
  find : ∀ (k : κ) (es : List MapEntry) (ks : List κ) (w : World), es.map (·.key) = ks.map enc → (Instr.findKey K (enc k) es).run P w = .ok ((ks.findIdx? fun x => decide (x = k)).map fun i => (i, (es.getD i default).val)) w
  stays : ∀ (k : κ) (w : World), (Instr.keyThatStays (enc k) (enc k)).run P w = .ok (enc k) w

section
variable {P : Program} {K : TypeId}
theorem findNow_int (kd : IntKind) (k : Int) : ∀ (es : List MapEntry) (ks : List Int) (i : Nat), es.map (·.key) = ks.map (Value.int kd) → Instr.findNow (.int kd) (.int kd k) es i = some ((ks.findIdx? fun x => decide (x = k)).map fun j => (i + j, (es.getD j default).val))
  | [], [], i, _ => by simp [Instr.findNow]
  | e :: es, x :: ks, i, h => by
    simp only [List.map_cons, List.cons.injEq] at h
    obtain ⟨h1, h2⟩ := h
    have ih := findNow_int kd k es ks (i + 1) h2
    unfold Instr.findNow
    rw [h1]
    simp only [Instr.sameNow, if_true]
    by_cases e : x = k
    · subst e; simp [List.findIdx?_cons]
    · have : (k == x) = false := by simpa using fun h => e h.symm
      rw [this, ih, List.findIdx?_cons]
      simp only [e, decide_false]
      cases List.findIdx? (fun x => decide (x = k)) ks with
      | none => rfl
      | some j => simp; omega
  | [], _ :: _, _, h => by simp at h
  | _ :: _, [], _, h => by simp at h
/-- Keys that are whole numbers. -/
def keyInt (kd : IntKind) (hK : P.underlying K = some (.int kd)) : KeyLaw' P K Int where
  enc := Value.int kd
  check e k w := Go.MapKept.run_checkKey hK (show Go.MapKept.IsKey (.int kd) (.int kd k) from rfl) e 9999
  find k es ks w h := by
    unfold Instr.findKey
    simp only [Sem.run_bind, run_underlying hK, Result.andThen_ok]
    rw [findNow_int kd k es ks 0 h]
    simp
  stays k w := by simp [Instr.keyThatStays, Instr.sameBits]
end

/-! ### a map in memory -/
section
variable {P : Program} {K : TypeId} {κ : Type} [DecidableEq κ]
/-- Block B is a map with just these keys and values. -/
def MapIs (L : KeyLaw' P K κ) (W : World) (B : Nat) (m : List (κ × Value)) : Prop :=
  ∃ es clock, W.heap[B]? = some (.map es clock) ∧ es.toList.map (fun e => (e.key, e.val)) = m.map (fun p => (L.enc p.1, p.2)) ∧ (keysOf m).Nodup ∧ (∀ e ∈ es.toList, e.born < clock) ∧ (es.toList.map (·.born)).Nodup
/-- .. and the entry of key k bears this stamp. -/
def MapSt (L : KeyLaw' P K κ) (W : World) (B : Nat) (m : List (κ × Value)) (k : κ) (st : Int) : Prop :=
  ∃ es clock i, W.heap[B]? = some (.map es clock) ∧ es.toList.map (fun e => (e.key, e.val)) = m.map (fun p => (L.enc p.1, p.2)) ∧ (keysOf m).Nodup ∧ (∀ e ∈ es.toList, e.born < clock) ∧ (es.toList.map (·.born)).Nodup ∧
    ((keysOf m).findIdx? fun x => decide (x = k)) = some i ∧ (es.toList[i]?.map fun e => (e.born : Int)) = some st
variable {L : KeyLaw' P K κ} {W W' : World} {B : Nat} {m : List (κ × Value)}
theorem MapIs.lt (h : MapIs L W B m) : B < W.heap.size := by obtain ⟨es, c, hb, _⟩ := h; exact (Array.getElem?_eq_some_iff.1 hb).1
theorem MapIs.of_eq (h : MapIs L W B m) (he : W'.heap[B]? = W.heap[B]?) : MapIs L W' B m := by obtain ⟨es, c, hb, r⟩ := h; exact ⟨es, c, he.trans hb, r⟩
theorem MapIs.below {n : Nat} (h : MapIs L W B m) (hb : Below n W W') (hB : B < n) : MapIs L W' B m := h.of_eq (hb.block B hB)
theorem MapIs.callee (h : MapIs L W B m) (hb : Below W.heap.size W W') : MapIs L W' B m := h.below hb h.lt
theorem MapIs.alloc (h : MapIs L W B m) (o : Obj) : MapIs L (W.alloc o) B m := h.of_eq (Below.heap_alloc _ _ _ h.lt)
theorem MapIs.setCell (h : MapIs L W B m) {p : Addr} (hp : p.block ≠ B) (u : Value) : MapIs L (W.setCell p u) B m := h.of_eq (Below.heap_setCell _ _ _ _ (Ne.symm hp))
theorem MapIs.drewN (h : MapIs L W B m) (n : Nat) : MapIs L (W.drewN n) B m := h
theorem MapIs.drew (h : MapIs L W B m) : MapIs L W.drew B m := h
theorem MapIs.kept {row : Option Nat} (h : MapIs L W B m) (hg : W.grownBy W' row) (hne : some B ≠ row) : MapIs L W' B m := h.of_eq (hg.block B h.lt hne)
theorem MapIs.made (W : World) : MapIs L (W.alloc (.map #[] 0)) W.heap.size ([] : List (κ × Value)) := ⟨#[], 0, World.alloc_heap_new W _, rfl, by simp [keysOf], by simp, by simp⟩
theorem rows_keys {es : Array MapEntry} (h : es.toList.map (fun e => (e.key, e.val)) = m.map (fun p => (L.enc p.1, p.2))) : es.toList.map (·.key) = (keysOf m).map L.enc := by
  have := congrArg (List.map Prod.fst) h
  simpa [keysOf, List.map_map, Function.comp_def] using this
theorem rows_len {es : Array MapEntry} (h : es.toList.map (fun e => (e.key, e.val)) = m.map (fun p => (L.enc p.1, p.2))) : es.toList.length = m.length := by
  have := congrArg List.length h; simpa using this
theorem rows_at {es : Array MapEntry} (h : es.toList.map (fun e => (e.key, e.val)) = m.map (fun p => (L.enc p.1, p.2))) {i : Nat} (hi : i < m.length) : (es.toList.getD i default).val = m[i].2 := by
  have hl := rows_len h
  have := congrArg (fun l => l[i]?) h
  simp only [List.getElem?_map] at this
  rw [List.getElem?_eq_getElem (by omega), List.getElem?_eq_getElem hi] at this
  simp only [Option.map_some, Option.some.injEq, Prod.mk.injEq] at this
  rw [List.getD_eq_getElem?_getD, List.getElem?_eq_getElem (by omega)]
  exact this.2
theorem find_look (m : List (κ × Value)) (k : κ) : (((keysOf m).findIdx? fun x => decide (x = k)).bind fun i => m[i]?.map (·.2)) = look m k := by
  induction m with
  | nil => rfl
  | cons p m ih =>
    rw [look_cons]
    unfold keysOf at ih ⊢
    rw [List.map_cons, List.findIdx?_cons]
    by_cases h : p.1 = k
    · simp [h]
    · simp only [h, decide_false, if_false]
      rw [← ih]
      cases List.findIdx? (fun x => decide (x = k)) (m.map (·.1)) with
      | none => rfl
      | some j => simp
theorem find_lt {m : List (κ × Value)} {k : κ} {i : Nat} (h : ((keysOf m).findIdx? fun x => decide (x = k)) = some i) : i < m.length ∧ ∃ hi : i < m.length, m[i].1 = k ∧ look m k = some m[i].2 := by
  obtain ⟨hi, hk, _⟩ := List.findIdx?_eq_some_iff_getElem.1 h
  have hi' : i < m.length := by simpa [keysOf] using hi
  refine ⟨hi', hi', by simpa [keysOf] using hk, ?_⟩
  rw [← find_look, h]
  simp [hi']
/-- 'm[k]', 'v, ok := m[k]'. -/
theorem MapIs.lookup (h : MapIs L W B m) {T E : TypeId} (hT : P.underlying T = some (.map K E)) {z : Value} (hz : ∀ w, (zeroValue E).run P w = .ok z w) (k : κ) (c : Bool) :
    (Instr.lookup T (.map (some B)) (L.enc k) c).run P W = .ok (if c then .tuple #[(look m k).getD z, .bool (look m k).isSome] else (look m k).getD z) W := by
  obtain ⟨es, clock, hb, hr, hn, _, _⟩ := h
  have hf := L.find k es.toList (keysOf m) W (rows_keys hr)
  unfold Instr.lookup
  simp only [Sem.run_bind, run_underlying hT, Result.andThen_ok, Go.MapKept.run_getObj_map hb, L.check, hf, Sem.run_pure]
  cases hi : (keysOf m).findIdx? fun x => decide (x = k) with
  | none =>
    have hl : look m k = none := by rw [← find_look, hi]; rfl
    simp only [Option.map_none, Sem.run_bind, hz, hl]
    cases c <;> rfl
  | some i =>
    obtain ⟨hlt, _, _, hl⟩ := find_lt hi
    simp only [Option.map_some, hl, rows_at hr hlt]
    cases c <;> rfl
theorem putObj_grown (W : World) (B : Nat) (o : Obj) : W.grownBy (W.putObj B o) (some B) := grownBy_putObj' W B o
theorem find_none {m : List (κ × Value)} {k : κ} (h : ((keysOf m).findIdx? fun x => decide (x = k)) = none) : look m k = none := by rw [← find_look, h]; rfl
theorem map_at_upd {m : List (κ × Value)} (hn : (keysOf m).Nodup) {k : κ} {i : Nat} (hi : ((keysOf m).findIdx? fun x => decide (x = k)) = some i) (v : Value) : put m k v = m.set i (k, v) := by
  obtain ⟨hlt, _, hk, hl⟩ := find_lt hi
  unfold put
  rw [if_pos (by rw [hl]; rfl)]
  apply List.ext_getElem
  · simp
  · intro j h1 h2
    rw [List.getElem_map, List.getElem_set]
    have hj : j < m.length := by simpa using h1
    by_cases e : i = j
    · subst e; simp [hk]
    · have : m[j].1 ≠ k := by
        intro e2
        apply e
        have hp := List.pairwise_iff_getElem.1 hn
        have hli : i < (keysOf m).length := by simpa [keysOf] using hlt
        have hlj : j < (keysOf m).length := by simpa [keysOf] using hj
        rcases Nat.lt_trichotomy i j with hij | hij | hij
        · exact absurd (by simp [keysOf, hk, e2]) (hp i j hli hlj hij)
        · exact hij
        · exact absurd (by simp [keysOf, hk, e2]) (hp j i hlj hli hij)
      simp [this, e]
theorem rows_push {es : Array MapEntry} {clock : Nat} (h : es.toList.map (fun e => (e.key, e.val)) = m.map (fun p => (L.enc p.1, p.2))) (k : κ) (v : Value) :
    (es.push { key := L.enc k, val := v, born := clock }).toList.map (fun e => (e.key, e.val)) = (m ++ [(k, v)]).map (fun p => (L.enc p.1, p.2)) := by
  rw [Array.toList_push, List.map_append, h]; simp
theorem toList_modify (es : Array MapEntry) (i : Nat) (f : MapEntry → MapEntry) : (es.modify i f).toList = es.toList.modify i f := by simp
theorem rows_set {es : Array MapEntry} (h : es.toList.map (fun e => (e.key, e.val)) = m.map (fun p => (L.enc p.1, p.2))) {i : Nat} {k : κ} (hi : i < m.length) (hk : m[i].1 = k) (f : MapEntry → MapEntry) (v : Value) (hf : ∀ e : MapEntry, e.key = L.enc k → e.val = m[i].2 → (f e).key = L.enc k ∧ (f e).val = v) :
    (es.modify i f).toList.map (fun e => (e.key, e.val)) = (m.set i (k, v)).map (fun p => (L.enc p.1, p.2)) := by
  have hl := rows_len h
  rw [toList_modify]
  apply List.ext_getElem
  · simp [hl]
  · intro j h1 h2
    have hj : j < m.length := by simpa using h2
    have hje : j < es.toList.length := by omega
    have hrow : ((es.toList[j]).key, (es.toList[j]).val) = (L.enc m[j].1, m[j].2) := by
      have := congrArg (fun l => l[j]?) h
      simp only [List.getElem?_map] at this
      rw [List.getElem?_eq_getElem hje, List.getElem?_eq_getElem hj] at this
      simpa using this
    rw [List.getElem_map, List.getElem_map, List.getElem_modify, List.getElem_set]
    by_cases e : i = j
    · subst e
      simp only [if_true]
      have hk' : (es.toList[i]).key = L.enc k := by rw [← hk]; exact congrArg Prod.fst hrow
      obtain ⟨f1, f2⟩ := hf _ hk' (congrArg Prod.snd hrow)
      rw [f1, f2]
    · simp only [e, if_false]
      exact hrow
theorem born_modify (es : Array MapEntry) (i : Nat) (f : MapEntry → MapEntry) (hf : ∀ e, (f e).born = e.born) : (es.modify i f).toList.map (·.born) = es.toList.map (·.born) := by
  rw [toList_modify]
  apply List.ext_getElem
  · simp
  · intro j h1 h2
    rw [List.getElem_map, List.getElem_map, List.getElem_modify]
    split <;> simp [hf]
theorem born_nodup {es : Array MapEntry} (hd : (es.toList.map (·.born)).Nodup) (i : Nat) (f : MapEntry → MapEntry) (hf : ∀ e, (f e).born = e.born) : ((es.modify i f).toList.map (·.born)).Nodup := by rw [born_modify es i f hf]; exact hd
theorem born_lt_modify {es : Array MapEntry} {clock : Nat} (h : ∀ e ∈ es.toList, e.born < clock) (i : Nat) (f : MapEntry → MapEntry) (hf : ∀ e, (f e).born = e.born) : ∀ e ∈ (es.modify i f).toList, e.born < clock := by
  intro e he
  have hm : e.born ∈ (es.modify i f).toList.map (·.born) := List.mem_map.2 ⟨e, he, rfl⟩
  rw [born_modify es i f hf] at hm
  obtain ⟨e', he', hb⟩ := List.mem_map.1 hm
  rw [← hb]
  exact h e' he'
theorem born_push {es : Array MapEntry} {clock : Nat} (h : ∀ e ∈ es.toList, e.born < clock) (hn : (es.toList.map (·.born)).Nodup) (k v : Value) :
    (∀ e ∈ (es.push { key := k, val := v, born := clock }).toList, e.born < clock + 1) ∧ ((es.push { key := k, val := v, born := clock }).toList.map (·.born)).Nodup := by
  constructor
  · intro e he
    rw [Array.toList_push, List.mem_append] at he
    rcases he with he | he
    · have := h e he; omega
    · simp at he; subst he; simp
  · rw [Array.toList_push, List.map_append, List.nodup_append]
    refine ⟨hn, by simp, fun a ha b hb => ?_⟩
    simp at hb
    subst hb
    obtain ⟨e, he, rfl⟩ := List.mem_map.1 ha
    have := h e he
    omega
theorem key_at {es : Array MapEntry} (h : es.toList.map (fun e => (e.key, e.val)) = m.map (fun p => (L.enc p.1, p.2))) {i : Nat} {k : κ} (hi : i < m.length) (hk : m[i].1 = k) : ((es[i]?).map (·.key)).getD (L.enc k) = L.enc k := by
  have hl := rows_len h
  have := congrArg (fun l => l[i]?) h
  simp only [List.getElem?_map] at this
  rw [List.getElem?_eq_getElem (by omega), List.getElem?_eq_getElem hi] at this
  simp only [Option.map_some, Option.some.injEq, Prod.mk.injEq] at this
  have he : es[i]? = some (es.toList[i]'(by omega)) := by rw [← Array.getElem?_toList, List.getElem?_eq_getElem (by omega)]
  rw [he, ← hk]
  exact this.1
/-- 'm[k] = v'. -/
theorem MapIs.update (h : MapIs L W B m) {T E : TypeId} (hT : P.underlying T = some (.map K E)) (k : κ) (v : Value) :
    ∃ W', (Instr.mapUpdate T (.map (some B)) (L.enc k) v).run P W = .ok () W' ∧ MapIs L W' B (put m k v) ∧ W.grownBy W' (some B) ∧ W'.heap.size = W.heap.size := by
  obtain ⟨es, clock, hb, hr, hn, hs, hd⟩ := h
  have hB := (Array.getElem?_eq_some_iff.1 hb).1
  have hf := L.find k es.toList (keysOf m) W (rows_keys hr)
  unfold Instr.mapUpdate
  simp only [Sem.run_bind, run_underlying hT, Result.andThen_ok, Go.MapKept.run_getObj_map hb, L.check, hf]
  cases hi : (keysOf m).findIdx? fun x => decide (x = k) with
  | none =>
    have hl := find_none hi
    simp only [Option.map_none, Go.MapKept.run_setObj_map _ hb]
    refine ⟨_, rfl, ?_, putObj_grown W B _, by simp⟩
    obtain ⟨b1, b2⟩ := born_push hs hd (L.enc k) v
    refine ⟨_, _, World.putObj_heap_same hB, ?_, nodup_put hn k v, b1, b2⟩
    unfold put
    rw [hl]
    exact rows_push hr k v
  | some i =>
    obtain ⟨hlt, _, hk, hl⟩ := find_lt hi
    simp only [Option.map_some, Sem.run_bind, key_at hr hlt hk, L.stays, Result.andThen_ok, Go.MapKept.run_setObj_map _ hb]
    refine ⟨_, rfl, ?_, putObj_grown W B _, by simp⟩
    refine ⟨_, _, World.putObj_heap_same hB, ?_, nodup_put hn k v, born_lt_modify hs _ _ (fun _ => rfl), born_nodup hd _ _ (fun _ => rfl)⟩
    rw [map_at_upd hn hi v]
    exact rows_set hr hlt hk _ v (fun e _ _ => ⟨rfl, rfl⟩)
/-- 'm[k] op= v': the entry is found, or made. -/
theorem MapIs.entry (h : MapIs L W B m) {T E : TypeId} (hT : P.underlying T = some (.map K E)) {z : Value} (hz : ∀ w, (zeroValue E).run P w = .ok z w) (k : κ) :
    ∃ W' st, (Instr.mapEntry T (.map (some B)) (L.enc k)).run P W = .ok (.tuple #[(look m k).getD z, .int .i64 st]) W' ∧ MapSt L W' B (put m k ((look m k).getD z)) k st ∧ W.grownBy W' (some B) ∧ W'.heap.size = W.heap.size := by
  obtain ⟨es, clock, hb, hr, hn, hs, hd⟩ := h
  have hB := (Array.getElem?_eq_some_iff.1 hb).1
  have hf := L.find k es.toList (keysOf m) W (rows_keys hr)
  unfold Instr.mapEntry
  simp only [Sem.run_bind, run_underlying hT, Result.andThen_ok, Go.MapKept.run_getObj_map hb, L.check, hf]
  cases hi : (keysOf m).findIdx? fun x => decide (x = k) with
  | none =>
    have hl := find_none hi
    simp only [Option.map_none, Sem.run_bind, hz, Result.andThen_ok, Go.MapKept.run_setObj_map _ hb, Sem.run_pure, hl, goInt]
    refine ⟨_, _, rfl, ?_, putObj_grown W B _, by simp⟩
    obtain ⟨b1, b2⟩ := born_push hs hd (L.enc k) z
    have hlen := rows_len hr
    refine ⟨_, _, m.length, World.putObj_heap_same hB, ?_, nodup_put hn k _, b1, b2, ?_, ?_⟩
    · unfold put
      rw [hl]
      exact rows_push hr k z
    · unfold put
      rw [hl]
      simp only [Option.isSome_none, keysOf]
      simp only [Bool.false_eq_true, if_false, List.map_append, List.map_cons, List.map_nil]
      have hnone : (m.map (·.1)).findIdx? (fun x => decide (x = k)) = none := hi
      rw [List.findIdx?_append, hnone]
      simp
    · rw [Array.toList_push, List.getElem?_append_right (by omega), hlen, Nat.sub_self]
      rfl
  | some i =>
    obtain ⟨hlt, _, hk, hl⟩ := find_lt hi
    have hlen := rows_len hr
    have he : es[i]? = some (es.toList[i]'(by omega)) := by rw [← Array.getElem?_toList, List.getElem?_eq_getElem (by omega)]
    simp only [Option.map_some, Sem.run_bind, key_at hr hlt hk, L.stays, Result.andThen_ok, Go.MapKept.run_setObj_map _ hb, Sem.run_pure, hl, rows_at hr hlt, goInt, Option.getD_some]
    refine ⟨_, _, rfl, ?_, putObj_grown W B _, by simp⟩
    have hput : put m k m[i].2 = m := by
      rw [map_at_upd hn hi]
      apply List.ext_getElem (by simp)
      intro j h1 h2
      rw [List.getElem_set]
      split
      · rename_i e; subst e; rw [← hk]
      · rfl
    rw [hput]
    refine ⟨_, _, i, World.putObj_heap_same hB, ?_, hn, born_lt_modify hs _ _ (fun _ => rfl), born_nodup hd _ _ (fun _ => rfl), hi, ?_⟩
    · have := rows_set hr hlt hk (fun e => { e with key := L.enc k }) m[i].2 (fun e _ hv => ⟨rfl, hv⟩)
      rw [this, ← map_at_upd hn hi, hput]
    · rw [toList_modify, List.getElem?_modify, he]
      simp [List.getElem?_eq_getElem (show i < es.toList.length by omega)]
/-- .. and the value is laid there. -/
theorem MapSt.store {k : κ} {st : Int} (h : MapSt L W B m k st) (T : TypeId) (v : Value) :
    ∃ W', (Instr.entryStore T (.map (some B)) (.int .i64 st) v).run P W = .ok () W' ∧ MapIs L W' B (put m k v) ∧ W.grownBy W' (some B) ∧ W'.heap.size = W.heap.size := by
  obtain ⟨es, clock, i, hb, hr, hn, hs, hd, hi, hst⟩ := h
  have hB := (Array.getElem?_eq_some_iff.1 hb).1
  obtain ⟨hlt, _, hk, hl⟩ := find_lt hi
  have hlen := rows_len hr
  have hie : i < es.toList.length := by omega
  rw [List.getElem?_eq_getElem hie] at hst
  simp only [Option.map_some, Option.some.injEq] at hst
  have hfi : es.findIdx? (fun e => (e.born : Int) == st) = some i := by
    rw [Array.findIdx?_eq_some_iff_getElem]
    refine ⟨by simpa using hie, by rw [← hst]; simp, fun j hj => ?_⟩
    have hje : j < es.toList.length := by omega
    have hp := List.pairwise_iff_getElem.1 hd j i (by simpa using hje) (by simpa using hie) hj
    simp only [List.getElem_map] at hp
    simp only [beq_iff_eq]
    intro e
    apply hp
    rw [← hst] at e
    have e' : (es[j]'(by simpa using hje)).born = (es.toList[i]).born := by exact_mod_cast e
    simpa using e'
  unfold Instr.entryStore
  simp only [Sem.run_bind, Go.MapKept.run_getObj_map hb, Result.andThen_ok, asInt, asIntOf, Sem.run_pure, hfi, Go.MapKept.run_setObj_map _ hb]
  refine ⟨_, rfl, ?_, putObj_grown W B _, by simp⟩
  refine ⟨_, _, World.putObj_heap_same hB, ?_, nodup_put hn k v, born_lt_modify hs _ _ (fun _ => rfl), born_nodup hd _ _ (fun _ => rfl)⟩
  rw [map_at_upd hn hi v]
  exact rows_set hr hlt hk _ v (fun e he _ => ⟨he, rfl⟩)
theorem put_put (m : List (κ × Value)) (k : κ) (u v : Value) : put (put m k u) k v = put m k v := by
  have h1 : (look (put m k u) k).isSome := by rw [look_put]; simp
  unfold put at *
  by_cases h : (look m k).isSome
  · rw [if_pos h] at h1 ⊢
    rw [if_pos h, if_pos h1, List.map_map]
    apply List.map_congr_left
    intro p _
    by_cases hp : p.1 = k <;> simp [hp]
  · rw [if_neg h] at h1 ⊢
    rw [if_neg h, if_pos h1, List.map_append]
    have : m.map (fun p => if p.1 = k then (k, v) else p) = m := by
      conv => rhs; rw [← List.map_id m]
      apply List.map_congr_left
      intro p hp
      have hne : p.1 ≠ k := fun e => by
        have hn : look m k = none := by simpa using h
        exact (look_none_iff m k).1 hn (List.mem_map.2 ⟨p, hp, e⟩)
      simp [hne]
    rw [this]
    simp
theorem del_erase : ∀ (m : List (κ × Value)) (_ : (keysOf m).Nodup) {i : Nat} (hi : i < m.length) {k : κ} (_ : m[i].1 = k), del m k = m.eraseIdx i
  | [], _, _, hi, _, _ => by simp at hi
  | p :: m, hn, 0, _, k, hk => by
    have hk' : p.1 = k := hk
    unfold keysOf at hn
    rw [List.map_cons, List.nodup_cons] at hn
    unfold del
    rw [List.filter_cons_of_neg (by simpa using hk'), List.eraseIdx_cons_zero, List.filter_eq_self]
    intro q hq
    have : q.1 ≠ k := fun e => hn.1 (List.mem_map.2 ⟨q, hq, by rw [e, hk']⟩)
    simpa using this
  | p :: m, hn, i + 1, hi, k, hk => by
    unfold keysOf at hn
    rw [List.map_cons, List.nodup_cons] at hn
    have hi' : i < m.length := by simpa using hi
    have hk' : m[i].1 = k := hk
    have hp : p.1 ≠ k := fun e => hn.1 (List.mem_map.2 ⟨m[i], List.getElem_mem hi', by rw [hk', e]⟩)
    have ih := del_erase m hn.2 hi' hk'
    unfold del at ih ⊢
    rw [List.filter_cons_of_pos (by simpa using hp), List.eraseIdx_cons_succ, ih]
theorem eraseIdx_map_ {α β : Type} (f : α → β) : ∀ (l : List α) (i : Nat), (l.eraseIdx i).map f = (l.map f).eraseIdx i
  | [], _ => rfl
  | _ :: _, 0 => rfl
  | x :: l, i + 1 => by simp only [List.eraseIdx_cons_succ, List.map_cons, eraseIdx_map_ f l i]
/-- 'delete(m, k)'. -/
theorem MapIs.delete (h : MapIs L W B m) {T E : TypeId} (hT : P.underlying T = some (.map K E)) (k : κ) (U ty : TypeId) :
    ∃ W', (Builtin.delete_ #[T, U] ty #[.map (some B), L.enc k]).run P W = .ok (.tuple #[]) W' ∧ MapIs L W' B (del m k) ∧ W.grownBy W' (some B) ∧ W'.heap.size = W.heap.size := by
  obtain ⟨es, clock, hb, hr, hn, hs, hd⟩ := h
  have hB := (Array.getElem?_eq_some_iff.1 hb).1
  have hf := L.find k es.toList (keysOf m) W (rows_keys hr)
  unfold Builtin.delete_
  simp only [List.getElem?_toArray, List.getElem?_cons_zero, List.getElem?_cons_succ, Sem.run_bind, run_underlying hT, Result.andThen_ok, Go.MapKept.run_getObj_map hb, L.check, hf]
  cases hi : (keysOf m).findIdx? fun x => decide (x = k) with
  | none =>
    have hl := find_none hi
    simp only [Option.map_none, Sem.run_bind, Go.MapKept.run_setObj_map _ hb, Result.andThen_ok, Sem.run_pure]
    refine ⟨_, rfl, ?_, putObj_grown W B _, by simp⟩
    refine ⟨_, _, World.putObj_heap_same hB, ?_, nodup_del hn k, hs, hd⟩
    have : del m k = m := by
      unfold del
      rw [List.filter_eq_self]
      intro p hp
      have hne : p.1 ≠ k := fun e => (look_none_iff m k).1 hl (List.mem_map.2 ⟨p, hp, e⟩)
      simpa using hne
    rw [this]
    exact hr
  | some i =>
    obtain ⟨hlt, _, hk, hl⟩ := find_lt hi
    simp only [Option.map_some, Sem.run_bind, Go.MapKept.run_setObj_map _ hb, Result.andThen_ok, Sem.run_pure]
    refine ⟨_, rfl, ?_, putObj_grown W B _, by simp⟩
    have he : (es.eraseIdxIfInBounds i).toList = es.toList.eraseIdx i := by simp
    refine ⟨_, _, World.putObj_heap_same hB, ?_, nodup_del hn k, ?_, ?_⟩
    · rw [he]
      have hdel : del m k = m.eraseIdx i := del_erase m hn hlt hk
      rw [hdel, eraseIdx_map_, eraseIdx_map_, hr]
    · rw [he]; exact fun e h => hs e (List.mem_of_mem_eraseIdx h)
    · rw [he, eraseIdx_map_]; exact hd.sublist (List.eraseIdx_sublist _ _)
end
/-! ### 'map[K]E{}' -/
theorem run_makeMap (P : Program) (T : TypeId) (w : World) : (Instr.makeMap T none).run P w = .ok (.map (some w.heap.size)) (w.alloc (.map #[] 0)) := by
  simp only [Instr.makeMap, Sem.run_bind, run_newObj, Result.andThen_ok, Sem.run_pure]
  rfl
end Go.Proofs.Ytkifmdfmbmbdaaa.G
