/- Ballots: what is decided. -/
import Derived.Test.YtnllilpbgenjbaaBalD
import Derived.RegionIn
import Derived.IntWalk
namespace Go.Proofs.Ytnllilpbgenjbaa.G
open Go.RowKit Go.Shelf Go.Proofs.YtnllilpbgenjbaaW.PrintWords Go.Proofs.Ytnllilpbgenjbaa.P
attribute [local go_sem] Oper.semAt_some run_makeMap

/-- A goal that several ways come to: said once. -/
structure Same_ (p : Prop) : Prop where
  val : p
def keyV (x : S24) : Int × ByteArray := (x.f1, x.f2)
def countC (k : Int × ByteArray) (l : List S24) : Nat := (l.filter fun x => decide (keyV x = k)).length
theorem countC_snoc (k : Int × ByteArray) (l : List S24) (x : S24) : countC k (l ++ [x]) = countC k l + if keyV x = k then 1 else 0 := by
  unfold countC
  rw [List.filter_append, List.length_append]
  by_cases h : keyV x = k <;> simp [h]
theorem countC_le (k : Int × ByteArray) {a b : List S24} (h : a <+: b) : countC k a ≤ countC k b := (h.sublist.filter _).length_le
theorem countC_two {k j : Int × ByteArray} (hne : k ≠ j) (l : List S24) : countC k l + countC j l ≤ l.length := by
  induction l with
  | nil => simp [countC]
  | cons x l ih =>
    unfold countC at ih ⊢
    rw [List.filter_cons, List.filter_cons, List.length_cons]
    by_cases h1 : keyV x = k
    · have h2 : ¬ keyV x = j := fun e => hne (h1.symm.trans e)
      simp only [h1, hne, decide_true, decide_false, if_true, Bool.false_eq_true, if_false, List.length_cons]
      omega
    · by_cases h2 : keyV x = j
      · simp only [h2, Ne.symm hne, decide_true, decide_false, if_true, Bool.false_eq_true, if_false, List.length_cons]
        omega
      · simp only [h1, h2, decide_false, Bool.false_eq_true, if_false]
        omega
def decidedV (ls : List S24) : Option S24 := (castL ls).find? fun x => decide (ls.length / 2 < countC (keyV x) (castL ls))
def decidedS (ls : List S24) : ByteArray × Bool × Int :=
  if ls.length < 1 ∨ 16 < ls.length then (⟨#[]⟩, false, 81) else if ls.all rightV = false then (⟨#[]⟩, false, 2) else match decidedV ls with | some x => (x.f2, true, 0) | none => (⟨#[]⟩, false, 0)
theorem dec_found {ls p : List S24} {x : S24} (hp : p ++ [x] <+: castL ls) (hc : ls.length / 2 < countC (keyV x) (p ++ [x])) : ∃ y, decidedV ls = some y ∧ y.f2 = x.f2 := by
  have hx : x ∈ castL ls := hp.subset (by simp)
  have hcx : ls.length / 2 < countC (keyV x) (castL ls) := Nat.lt_of_lt_of_le hc (countC_le _ hp)
  unfold decidedV
  cases hf : (castL ls).find? fun x => decide (ls.length / 2 < countC (keyV x) (castL ls)) with
  | none =>
    have := List.find?_eq_none.1 hf x hx
    simp [hcx] at this
  | some y =>
    refine ⟨y, rfl, ?_⟩
    have hy := List.find?_some hf
    simp only [decide_eq_true_eq] at hy
    by_cases hk : keyV y = keyV x
    · exact (Prod.ext_iff.1 hk).2
    · have := countC_two hk (castL ls)
      have := castL_le ls
      omega
theorem dec_none {ls : List S24} (h : ∀ k, countC k (castL ls) ≤ ls.length / 2) : decidedV ls = none := by
  unfold decidedV
  rw [List.find?_eq_none]
  intro x _
  have := h (keyV x)
  simp only [decide_eq_true_eq]
  omega
/-- The map of how often, behind these votes. -/
def TimesIs (W : World) (B : Nat) (l : List S24) : Prop := ∃ m, MapIs keyChoice W B m ∧ ∀ k, (look m k).getD (.int .i64 0) = .int .i64 (countC k l)
theorem results_cells3 {P : Program} {fn : Func} {p q r : Tmp} {ta tb tc : TypeId} (h : fn.results = #[.cell p ta, .cell q tb, .cell r tc]) (tmps : Array Value) (w : World) {A B C : Nat} {u v x : Value}
    (hp : tmps[p]?.getD undef = .pointer (some ⟨A, 0, none⟩)) (hq : tmps[q]?.getD undef = .pointer (some ⟨B, 0, none⟩)) (hr : tmps[r]?.getD undef = .pointer (some ⟨C, 0, none⟩))
    (hu : Boxed w A ta u) (hv : Boxed w B tb v) (hx : Boxed w C tc x)
    (l1 : ∀ W : World, Boxed W A ta u → (loadVar ta ⟨A, 0, none⟩).run P W = .ok u W) (l2 : ∀ W : World, Boxed W B tb v → (loadVar tb ⟨B, 0, none⟩).run P W = .ok v W) (l3 : ∀ W : World, Boxed W C tc x → (loadVar tc ⟨C, 0, none⟩).run P W = .ok x W) :
    (results fn tmps).run P w = .ok (.tuple #[u, v, x]) w := by
  simp [results, h, hp, hq, hr, asAddr, l1 w hu, l2 w hv, l3 w hx]
theorem four_boxes (w w1 : World) (ta tb tc td : TypeId) (a b c d : Value)
    (h : Below ((((w.alloc (.cells #[a] ta)).alloc (.cells #[b] tb)).alloc (.cells #[c] tc)).alloc (.cells #[d] td)).heap.size ((((w.alloc (.cells #[a] ta)).alloc (.cells #[b] tb)).alloc (.cells #[c] tc)).alloc (.cells #[d] td)) w1) :
    Boxed w1 w.heap.size ta a ∧ Boxed w1 (w.heap.size + 1) tb b ∧ Boxed w1 (w.heap.size + 1 + 1) tc c ∧ Boxed w1 (w.heap.size + 1 + 1 + 1) td d ∧ w.heap.size + 4 ≤ w1.heap.size ∧ Below w.heap.size w w1 := by
  have h0 := (((Boxed.new w ta a).alloc (.cells #[b] tb)).alloc (.cells #[c] tc)).alloc (.cells #[d] td)
  have h1 := ((Boxed.new (w.alloc (.cells #[a] ta)) tb b).alloc (.cells #[c] tc)).alloc (.cells #[d] td)
  have h2 := (Boxed.new ((w.alloc (.cells #[a] ta)).alloc (.cells #[b] tb)) tc c).alloc (.cells #[d] td)
  have h3 := Boxed.new (((w.alloc (.cells #[a] ta)).alloc (.cells #[b] tb)).alloc (.cells #[c] tc)) td d
  simp only [World.size_alloc] at h1 h2 h3
  have hs := h.size
  simp only [World.size_alloc] at hs
  refine ⟨boxed_callee h0 h, boxed_callee h1 h, boxed_callee h2 h, boxed_callee h3 h, by omega, ?_⟩
  have g : Below w.heap.size w ((((w.alloc (.cells #[a] ta)).alloc (.cells #[b] tb)).alloc (.cells #[c] tc)).alloc (.cells #[d] td)) := by go_grown
  exact below_then g (by simp; omega) h
theorem MapSt.isMap {P : Program} {K : TypeId} {κ : Type} [DecidableEq κ] {L : KeyLaw' P K κ} {W : World} {B : Nat} {m : List (κ × Value)} {k : κ} {st : Int} (h : MapSt L W B m k st) : MapIs L W B m := by
  obtain ⟨es, clock, i, hb, hr, hn, hs, hd, _⟩ := h
  exact ⟨es, clock, hb, hr, hn, hs, hd⟩
theorem zero_int (w : World) : (zeroValue 3).run Try.prog w = .ok (.int .i64 0) w := by
  unfold zeroValue
  simp [go_sem, Try.t3]
theorem load_str {W : World} {B : Nat} {v : ByteArray} (h : Boxed W B 9 (.string v)) : (loadVar 9 ⟨B, 0, none⟩).run Try.prog W = .ok (.string v) W := by
  have := h.cell
  simp [go_sem, this]
theorem load_bool {W : World} {B : Nat} {v : Bool} (h : Boxed W B 4 (.bool v)) : (loadVar 4 ⟨B, 0, none⟩).run Try.prog W = .ok (.bool v) W := by
  have := h.cell
  simp [go_sem, this]
theorem load_errno {W : World} {B : Nat} {v : Int} (h : Boxed W B 27 (.int .i64 v)) : (loadVar 27 ⟨B, 0, none⟩).run Try.prog W = .ok (.int .i64 v) W := by
  have := h.cell
  simp [go_sem, this]
/-- The state of the loop: n are the boxes of parameter and results, M is the map. -/
structure DecS (W : World) (n M : Nat) (A : Option Addr) (c L : Nat) (pre : List S24) : Prop where
  bt : Boxed W (M + 1) 60 (.map (some M))
  b0 : Boxed W n 36 (.slice A L c)
  b1 : Boxed W (n + 1) 9 (.string ⟨#[]⟩)
  b2 : Boxed W (n + 1 + 1) 4 (.bool false)
  b3 : Boxed W (n + 1 + 1 + 1) 27 (.int .i64 0)
  tm : TimesIs W M pre
  le : ∀ k, countC k pre ≤ L / 2
theorem DecS.same {W W' : World} {n M : Nat} {A : Option Addr} {c L : Nat} {pre : List S24} (h : DecS W n M A c L pre) (hk : ∀ k, n ≤ k → (k ≤ n + 3 ∨ (M ≤ k ∧ k ≤ M + 1) ) → W'.heap[k]? = W.heap[k]?) (hn : n ≤ M := by omega) : DecS W' n M A c L pre := by
  obtain ⟨bt, b0, b1, b2, b3, ⟨m, hm, hc⟩, le⟩ := h
  exact ⟨(hk _ (by omega) (by omega)).trans bt, (hk _ (by omega) (by omega)).trans b0, (hk _ (by omega) (by omega)).trans b1, (hk _ (by omega) (by omega)).trans b2, (hk _ (by omega) (by omega)).trans b3, ⟨m, hm.of_eq (hk _ (by omega) (by omega)), hc⟩, le⟩
/-- .. where it is left. -/
structure DecX (W : World) (n L : Nat) (pre : List S24) : Prop where
  ex : ∃ p x, pre = p ++ [x] ∧ L / 2 < countC (keyV x) pre ∧ Boxed W (n + 1) 9 (.string x.f2)
  b2 : Boxed W (n + 1 + 1) 4 (.bool true)
  b3 : Boxed W (n + 1 + 1 + 1) 27 (.int .i64 0)
theorem DecX.same {W W' : World} {n L : Nat} {pre : List S24} (h : DecX W n L pre) (hk : ∀ k, n ≤ k → k ≤ n + 3 → W'.heap[k]? = W.heap[k]?) : DecX W' n L pre := by
  obtain ⟨⟨p, x, e, hx, b1⟩, b2, b3⟩ := h
  exact ⟨⟨p, x, e, hx, (hk _ (by omega) (by omega)).trans b1⟩, (hk _ (by omega) (by omega)).trans b2, (hk _ (by omega) (by omega)).trans b3⟩
set_option maxRecDepth 100000 in
set_option maxHeartbeats 4000000 in
theorem Decided.yes (A : Option Addr) (c : Nat) (ls : List S24) (w : World) (hC : Kd.C k24 w A ls.length ls) (h1 : 1 ≤ ls.length) (h2 : ls.length ≤ 16) (hr : ls.all rightV = true) :
    Calls Try.prog 19 #[.slice A ls.length c] w fun e w' => e = .returned (.tuple #[.string (decidedS ls).1, .bool (decidedS ls).2.1, .int .i64 (decidedS ls).2.2]) ∧ Below w.heap.size w w' := by
  have d1 : decide ((ls.length : Int) < 1) = false := by simp; omega
  have d2 : decide (16 < (ls.length : Int)) = false := by simp; omega
  have HR := Lib.hid hr
  refine (callsIn_wide (n := 6)).1 ?_
  refine callsIn_of_wp_marks Try.func19 rfl trivial ?_ rfl
  simp only [Try.ntmps19, List.size_toArray, List.length_cons, List.length_nil, Nat.reduceAdd, Nat.reduceSub, Array.replicate_succ, Array.replicate_zero, List.push_toArray, List.append_toArray, List.nil_append, List.cons_append]
  refine wpIn_wide.2 ?_
  go_wp2_with (first | (go_at_call 26; refine (areRight.below _ _ _ (by omega) _ (Kd.C_below hC (by go_grown))).mono ?_; rintro e w1 ⟨rfl, hb1⟩; have hz1 := hb1.size; obtain ⟨x0, x1, x2, x3, hz, hB1⟩ := four_boxes _ _ _ _ _ _ _ _ _ _ hb1; have y0 := ((x0.alloc (.map #[] 0)).alloc (.cells #[.map (some w1.heap.size)] 60)).cell) | (go_at_call 27; refine ((callsIn_wide (n := 6)).1 (cast_in 6 _ _ _ _)).mono ?_; rintro e w2 ⟨rfl, rfl⟩))
  have z0 := (x0.alloc (.map #[] 0)).alloc (.cells #[.map (some w1.heap.size)] 60)
  have z1 := ((x1.alloc (.map #[] 0)).alloc (.cells #[.map (some w1.heap.size)] 60)).alloc (.cells #[.slice A ls.length c] 36)
  have z2 := ((x2.alloc (.map #[] 0)).alloc (.cells #[.map (some w1.heap.size)] 60)).alloc (.cells #[.slice A ls.length c] 36)
  have z3 := ((x3.alloc (.map #[] 0)).alloc (.cells #[.map (some w1.heap.size)] 60)).alloc (.cells #[.slice A ls.length c] 36)
  have z0' := z0.alloc (.cells #[.slice A ls.length c] 36)
  have zm := ((MapIs.made (L := keyChoice) w1).alloc (.cells #[.map (some w1.heap.size)] 60)).alloc (.cells #[.slice A ls.length c] 36)
  have zt := (Boxed.new (w1.alloc (.map #[] 0)) 60 (.map (some w1.heap.size))).alloc (.cells #[.slice A ls.length c] 36)
  have zs := Boxed.new ((w1.alloc (.map #[] 0)).alloc (.cells #[.map (some w1.heap.size)] 60)) 36 (.slice A ls.length c)
  have zB : Below w.heap.size w (((w1.alloc (.map #[] 0)).alloc (.cells #[.map (some w1.heap.size)] 60)).alloc (.cells #[.slice A ls.length c] 36)) := ((hB1.alloc (by omega) _).alloc (by simp; omega) _).alloc (by simp; omega) _
  simp only [World.size_alloc] at zt zs
  clear z0 y0 x0 x1 x2 x3
  obtain ⟨W0, hW0⟩ : ∃ W0, ((w1.alloc (.map #[] 0)).alloc (.cells #[.map (some w1.heap.size)] 60)).alloc (.cells #[.slice A ls.length c] 36) = W0 := ⟨_, rfl⟩
  have hs0 : W0.heap.size = w1.heap.size + 3 := by rw [← hW0]; simp
  rw [hW0] at z0' z1 z2 z3 zm zt zs zB ⊢
  have hC0 : Kd.C k24 W0 A ls.length ls := Kd.C_below hC zB
  clear hW0
  have hNb : ∀ j, w.heap.size ≤ j → j ≠ w1.heap.size + 1 + 1 → ¬ RdB (w1.heap.size + 1 + 1) A ls.length j := by
    rintro j hj hne (h | ⟨hn, ad, rfl, h⟩)
    · omega
    · obtain ⟨ad', e, c0, _⟩ := at_T24 hC 0 (by omega) (by omega)
      cases e
      have := World.block_lt_of_cell? w _ c0
      rw [show (ad.add ((0 : Int).toNat * 3)).block = ad.block by unfold Addr.add; split <;> rfl] at this
      omega
  refine wpIn_wide.1 (?_ : Code.wpIn Fence.wide 6 Try.prog _ _ _ _)
  refine wpIn_rangeFunc_ownH rfl (by omega) (gf := 32) (lb := #[.pointer (some ⟨w1.heap.size + 1 + 1, 0, none⟩)]) rfl trivial (enters_of Try.func32 (by kernel_rfl) rfl)
    (cast_stops (6 - 1) (by omega) (w1.heap.size + 1 + 1) A c ls (by omega) W0 (rdb_lt (by omega) hC0) zs.cell hC0) Keeps.trans (keeps_b (rdb_lt (by omega) hC0)) (Below.refl _ _) (fun _ => rfl)
    (fun pre W => DecS W w.heap.size w1.heap.size A c ls.length pre ∧ (Below w.heap.size w W ∧ W0.heap.size ≤ W.heap.size))
    (fun cd pre W => cd = .ret ∧ DecX W w.heap.size ls.length pre ∧ (Below w.heap.size w W ∧ W0.heap.size ≤ W.heap.size))
    ?own ?ownx
    ⟨⟨zt, z0', z1, z2, z3, ⟨[], zm, by intro k; rfl⟩, by intro k; simp [countC]⟩, zB, Nat.le_refl _⟩
    (fun x a' W => ∃ Bx, W0.heap.size ≤ Bx ∧ Blk W Bx 24 (voteC x) ∧ a' = { tmps := #[Value.slice A ls.length c, Value.pointer (some { block := w.heap.size, off := 0 }), Value.pointer (some { block := w.heap.size + 1, off := 0 }), Value.pointer (some { block := w.heap.size + 1 + 1, off := 0 }), Value.pointer (some { block := w.heap.size + 1 + 1 + 1, off := 0 }), Value.pointer (some { block := w1.heap.size + 1, off := 0 }), Value.pointer (some ⟨Bx, 0, none⟩), undef, Value.bool false, Value.slice A ls.length c, Value.int IntKind.i64 ↑ls.length, Value.bool false, Value.bool false, Value.slice A ls.length c, Value.int IntKind.i64 ↑ls.length, Value.bool false, Value.bool false, Value.bool false, Value.slice A ls.length c, Value.bool true, Value.bool false, Value.map (some w1.heap.size), Value.slice A ls.length c, Value.func (Fn.func 32) #[] #[Value.pointer (some { block := w1.heap.size + 1 + 1, off := 0 })], voteE x, undef, undef, undef, undef, undef, undef, undef, undef, undef, undef, undef, undef, undef, undef, undef, undef, undef, undef, undef, undef], defers := [] })
    (fun x a' => by
      rintro s X Y row ⟨Bx, hle, hbx, ha⟩ hg hr
      exact ⟨Bx, hle, Own.from (Blk.own Bx 24 (fun _ : Unit => voteC x)) _ () X Y row hbx hg hr, ha⟩) ?assign ?body ?done ?stop
  case own => 
    rintro s X Y row ⟨h, hB, hsz⟩ hg hr
    have hk : ∀ k, k < W0.heap.size → Y.heap[k]? = X.heap[k]? := fun k hk => hg.block k (by omega) (fun e => by have := (hr k e.symm).1; omega)
    exact ⟨h.same (fun k h1 h2 => hk k (by omega)), hB.grown hg hB.size (fun k e => by have := (hr k e).1; have := zB.size; omega), Nat.le_trans hsz hg.size⟩
  case ownx =>
    rintro cd s X Y row ⟨hc, h, hB, hsz⟩ hg hr
    have hk : ∀ k, k < W0.heap.size → Y.heap[k]? = X.heap[k]? := fun k hk => hg.block k (by omega) (fun e => by have := (hr k e.symm).1; omega)
    exact ⟨hc, h.same (fun k h1 h2 => hk k (by omega)), hB.grown hg hB.size (fun k e => by have := (hr k e).1; have := zB.size; omega), Nat.le_trans hsz hg.size⟩
  case assign =>
    rintro l pre x W K ⟨hb, hB, hsW⟩ hK
    unfold voteE
    gi_wp2
    exact hK _ _ ((KeepsOthers.alloc _ _).from _) ((Keeps.refl _ W).alloc (fun k hk => Nat.lt_of_lt_of_le (rdb_lt (by omega) hC0 k hk) hsW) _) ⟨hb.same (fun k h1 h2 => Below.heap_alloc _ _ _ (by omega)), hB.alloc hB.size _, by simp; omega⟩ ⟨W.heap.size, hsW, Blk.new W 24 (voteC x), rfl⟩
  case body =>
    rintro l pre x a' W hl ⟨r, hr⟩ ⟨⟨bt, b0, b1, b2, b3, ⟨m, hm, hmc⟩, hle⟩, hB, hsW⟩ ⟨Bx, hBx, hx, rfl⟩ hpl
    have ct := bt.cell
    have c0 := b0.cell
    have x1 : W.cell? ⟨Bx, 1, none⟩ = some (.int .u64 x.f1) := hx.cell 1
    have x2 : W.cell? ⟨Bx, 2, none⟩ = some (.string x.f2) := hx.cell 2
    obtain ⟨W1, hW1⟩ : ∃ W1, W.alloc (.cells #[.int .u64 x.f1, .string x.f2] 65) = W1 := ⟨_, rfl⟩
    have hm1 : MapIs keyChoice W1.drew w1.heap.size m := by rw [← hW1]; exact (hm.alloc _).drew
    obtain ⟨W3, st, e3, hm3, g3, s3⟩ := hm1.entry und_times zero_int (keyV x)
    rw [hmc] at e3 hm3
    have l1 : (Instr.lookup 60 (.map (some w1.heap.size)) (.agg #[.int .u64 x.f1, .string x.f2]) false).run Try.prog W1.drew = .ok (.int .i64 (countC (keyV x) pre)) W1.drew := (hm1.lookup und_times zero_int (keyV x) false).trans (by simp [hmc])
    have l3 : (Instr.lookup 60 (.map (some w1.heap.size)) (.agg #[.int .u64 x.f1, .string x.f2]) false).run Try.prog W3 = .ok (.int .i64 (countC (keyV x) pre)) W3 := (hm3.isMap.lookup und_times zero_int (keyV x) false).trans (by simp [look_put])
    obtain ⟨W4, e4, hm4, g4, s4⟩ := hm3.store 60 (.int .i64 ((countC (keyV x) pre : Int) + 1))
    rw [put_put] at hm4
    have l4 : (Instr.lookup 60 (.map (some w1.heap.size)) (.agg #[.int .u64 x.f1, .string x.f2]) false).run Try.prog W4.drew = .ok (.int .i64 ((countC (keyV x) pre : Int) + 1)) W4.drew := (hm4.drew.lookup und_times zero_int (keyV x) false).trans (by simp [look_put])
    have e3' : (Instr.mapEntry 60 (.map (some w1.heap.size)) (.agg #[.int .u64 x.f1, .string x.f2])).run Try.prog W1.drew = .ok (.tuple #[.int .i64 (countC (keyV x) pre), .int .i64 st]) W3 := e3
    have hct : countC (keyV x) pre ≤ 16 := Nat.le_trans (List.length_filter_le _ _) (by omega)
    have e4' : (Instr.entryStore 60 (.map (some w1.heap.size)) (.int .i64 st) (.int .i64 (IntKind.i64.wrap ((countC (keyV x) pre : Int) + 1)))).run Try.prog W3 = .ok () W4 := by rw [IntWalk.i64_in _ (by omega)]; exact e4
    have hmix : Try.prog.follows .mixedOrders = true := by kernel_rfl
    have hs1 : W1.drew.heap.size = W.heap.size + 1 := by rw [← hW1]; simp
    have hk1 : ∀ k, k < W.heap.size → W1.drew.heap[k]? = W.heap[k]? := fun k hk => by rw [← hW1]; exact Below.heap_alloc _ _ _ hk
    have hk4 : ∀ k, k < W1.drew.heap.size → k ≠ w1.heap.size → W4.heap[k]? = W1.drew.heap[k]? := fun k hk hne => (g4.block k (by rw [s3]; exact hk) (by simpa using hne)).trans (g3.block k hk (by simpa using hne))
    have hcc : Blk W1.drew W.heap.size 65 #[.int .u64 x.f1, .string x.f2] := by rw [← hW1]; exact Blk.new W _ _
    have bt1 : Boxed W1.drew (w1.heap.size + 1) 60 (.map (some w1.heap.size)) := (hk1 _ bt.lt).trans bt
    have bt4 : Boxed W4 (w1.heap.size + 1) 60 (.map (some w1.heap.size)) := (hk4 _ bt1.lt (by omega)).trans bt1
    have hcc4 : Blk W4 W.heap.size 65 #[.int .u64 x.f1, .string x.f2] := (hk4 _ hcc.lt (by have := hB.size; omega)).trans hcc
    have b04 : Boxed W4 w.heap.size 36 (.slice A ls.length c) := (hk4 _ (by rw [hs1]; have := b0.lt; omega) (by omega)).trans ((hk1 _ b0.lt).trans b0)
    have ct1 := bt1.cell
    have ct4 := bt4.cell
    have cc0 : W1.drew.cell? ⟨W.heap.size, 0, none⟩ = some (.int .u64 x.f1) := hcc.cell 0
    have cc1 : W1.drew.cell? ⟨W.heap.size, 1, none⟩ = some (.string x.f2) := hcc.cell 1
    have cd0 : W4.cell? ⟨W.heap.size, 0, none⟩ = some (.int .u64 x.f1) := hcc4.cell 0
    have cd1 : W4.cell? ⟨W.heap.size, 1, none⟩ = some (.string x.f2) := hcc4.cell 1
    have cl4 := b04.cell
    have hk5 : ∀ k, k < W.heap.size → k ≠ w1.heap.size → W4.heap[k]? = W.heap[k]? := fun k hk hne => (hk4 k (by omega) hne).trans (hk1 k hk)
    have b14 : Boxed W4 (w.heap.size + 1) 9 (.string ⟨#[]⟩) := (hk5 _ b1.lt (by omega)).trans b1
    have b24 : Boxed W4 (w.heap.size + 1 + 1) 4 (.bool false) := (hk5 _ b2.lt (by omega)).trans b2
    have b34 : Boxed W4 (w.heap.size + 1 + 1 + 1) 27 (.int .i64 0) := (hk5 _ b3.lt (by omega)).trans b3
    have hx4 : Blk W4 Bx 24 (voteC x) := (hk5 _ hx.lt (by omega)).trans hx
    have f1 := b14.frozen
    have f2 := b24.frozen
    have f3 := b34.frozen
    have g1 := b14.cell
    have g2 := b24.cell
    have g3' := b34.cell
    have x24 : W4.cell? ⟨Bx, 2, none⟩ = some (.string x.f2) := hx4.cell 2
    gi_wp2
    refine (fun (key : Same_ ?X1) => ?main1) ?pf1
    case main1 =>
      gi_region_with_o (fail)
      all_goals exact key.val
    refine Same_.mk ?_
    gi_wp2
    clear e4' e3 e3' l1 l3 e4
    have hF4 : KeepsFrom W0.heap.size W W4 := by
      have h1 : KeepsFrom W0.heap.size W W1.drew := by rw [← hW1]; exact ⟨((KeepsOthers.alloc W _).from W0.heap.size).size, ((KeepsOthers.alloc W _).from W0.heap.size).same⟩
      exact (h1.trans (KeepsFrom.of_grownBy g3 (fun j e => by cases e; omega))).trans (KeepsFrom.of_grownBy g4 (fun j e => by cases e; omega))
    have hP4 : Keeps (RdB (w1.heap.size + 1 + 1) A ls.length) W W4 := fun k hk => hk5 k (Nat.lt_of_lt_of_le (rdb_lt (by omega) hC0 k hk) hsW) (fun e => hNb w1.heap.size (by omega) (by omega) (e ▸ hk))
    have hB4 : Below w.heap.size w W4 := by
      have h1 : Below w.heap.size w W1.drew := by rw [← hW1]; exact (hB.alloc hB.size _).drew
      have := hB.size
      exact (h1.grown g3 (by omega) (fun k e => by cases e; omega)).grown g4 (by omega) (fun k e => by cases e; omega)
    have hs4 : W0.heap.size ≤ W4.heap.size := by omega
    by_cases hgt : ls.length / 2 < countC (keyV x) pre + 1
    · have dg : decide (IntKind.i64.wrap ((ls.length : Int) / 2) < (countC (keyV x) pre : Int) + 1) = true := by rw [IntWalk.i64_in _ (by omega)]; simp; omega
      have HG := Lib.hid hgt; clear hgt
      have HC := Lib.hid hct; clear hct
      refine (fun (key : Same_ ?X2) => ?main2) ?pf2
      case main2 =>
        gi_region_with_o (fail)
        all_goals exact key.val
      · refine Same_.mk ?_
        gi_wp2
        refine ⟨?_, rfl, ⟨⟨pre, x, rfl, ?_, ((b14.set (.string x.f2)).other (by omega) _).other (by omega) _⟩, ((b24.other (by omega) _).set (.bool true)).other (by omega) _, ((b34.other (by omega) _).other (by omega) _).set (.int .i64 0)⟩,
          (((hB4.setCell (p := ⟨w.heap.size + 1, 0, none⟩) (by show _ ≤ w.heap.size + 1; omega) _).setCell (p := ⟨w.heap.size + 1 + 1, 0, none⟩) (by show _ ≤ w.heap.size + 1 + 1; omega) _).setCell (p := ⟨w.heap.size + 1 + 1 + 1, 0, none⟩) (by show _ ≤ w.heap.size + 1 + 1 + 1; omega) _).drew, by simp [World.setCell, World.drew]; omega⟩
        · have h3 := hF4.trans ((((KeepsOthers.setCell W4 ⟨w.heap.size + 1, 0, none⟩ (.string x.f2)).trans (KeepsOthers.setCell _ ⟨w.heap.size + 1 + 1, 0, none⟩ (.bool true))).trans (KeepsOthers.setCell _ ⟨w.heap.size + 1 + 1 + 1, 0, none⟩ (.int .i64 0))).from W0.heap.size)
          exact ⟨h3.size, h3.same⟩
        · rw [countC_snoc, if_pos rfl]; exact HG.out
    · have dg : decide (IntKind.i64.wrap ((ls.length : Int) / 2) < (countC (keyV x) pre : Int) + 1) = false := by rw [IntWalk.i64_in _ (by omega)]; simp; omega
      have HG := Lib.hid hgt; clear hgt
      have HC := Lib.hid hct; clear hct
      refine (fun (key : Same_ ?X3) => ?main3) ?pf3
      case main3 =>
        gi_region_with_o (fail)
        all_goals exact key.val
      · refine Same_.mk ?_
        gi_wp2
        refine ⟨⟨hF4.size, hF4.same⟩, hP4, ⟨bt4, b04, b14, b24, b34, ⟨_, hm4, ?_⟩, ?_⟩, hB4.drew, hs4⟩
        · intro k
          rw [look_put, countC_snoc]
          by_cases e : k = keyV x
          · subst e; simp
          · rw [if_neg e, if_neg (fun h => e h.symm), hmc k]; rfl
        · intro k
          rw [countC_snoc]
          by_cases e : keyV x = k
          · subst e; rw [if_pos rfl]; have := HG.out; omega
          · rw [if_neg e]; exact hle k
  case done =>
    rintro D ys W hD rfl ⟨⟨bt, b0, b1, b2, b3, _, hle⟩, hB, hsW⟩ hK
    have f1 := b1.frozen
    have f2 := b2.frozen
    have f3 := b3.frozen
    have c1 := b1.cell
    have c2 := b2.cell
    have c3 := b3.cell
    have hKD := ((Below.heap_setCell _ ⟨w.heap.size + 1 + 1 + 1, 0, none⟩ (.int .i64 0) D (by show D ≠ w.heap.size + 1 + 1 + 1; omega)).trans ((Below.heap_setCell _ ⟨w.heap.size + 1 + 1, 0, none⟩ (.bool false) D (by show D ≠ w.heap.size + 1 + 1; omega)).trans ((Below.heap_setCell W ⟨w.heap.size + 1, 0, none⟩ (.string ⟨#[]⟩) D (by show D ≠ w.heap.size + 1; omega)).trans hK)))
    have r1 := ((b1.set (.string ⟨#[]⟩)).other (B' := w.heap.size + 1 + 1) (by omega) (.bool false)).other (B' := w.heap.size + 1 + 1 + 1) (by omega) (.int .i64 0)
    have r2 := ((b2.other (B' := w.heap.size + 1) (by omega) (.string ⟨#[]⟩)).set (.bool false)).other (B' := w.heap.size + 1 + 1 + 1) (by omega) (.int .i64 0)
    have r3 := ((b3.other (B' := w.heap.size + 1) (by omega) (.string ⟨#[]⟩)).other (B' := w.heap.size + 1 + 1) (by omega) (.bool false)).set (.int .i64 0)
    have hds : decidedS ls = (⟨#[]⟩, false, 0) := by unfold decidedS; rw [if_neg (by omega), if_neg (by rw [HR.out]; simp), dec_none hle]
    have hB' : Below w.heap.size w (((W.setCell ⟨w.heap.size + 1, 0, none⟩ (.string ⟨#[]⟩)).setCell ⟨w.heap.size + 1 + 1, 0, none⟩ (.bool false)).setCell ⟨w.heap.size + 1 + 1 + 1, 0, none⟩ (.int .i64 0)) :=
      ((hB.setCell (p := ⟨w.heap.size + 1, 0, none⟩) (by show _ ≤ w.heap.size + 1; omega) _).setCell (p := ⟨w.heap.size + 1 + 1, 0, none⟩) (by show _ ≤ w.heap.size + 1 + 1; omega) _).setCell (p := ⟨w.heap.size + 1 + 1 + 1, 0, none⟩) (by show _ ≤ w.heap.size + 1 + 1 + 1; omega) _
    go_wp2
    refine ⟨by simp, .inl ⟨_, _, rfl, run_takeDeferred hKD, ?_⟩⟩
    refine ⟨_, results_cells3 rfl _ _ rfl rfl rfl ((World.putObj_heap_other (by omega)).trans r1) ((World.putObj_heap_other (by omega)).trans r2) ((World.putObj_heap_other (by omega)).trans r3) (fun _ h => load_str h) (fun _ h => load_bool h) (fun _ h => load_errno h), ?_, ?_⟩
    · rw [hds]
    · exact hB'.trans (belowK_b (w := W0) (by have := zB.size; omega) _ D _ _ hD hKD rfl rfl)
  case stop =>
    rintro D c pre W hD hpre ⟨rfl, ⟨⟨p, x, rfl, hx, b1⟩, b2, b3⟩, hB, hsW⟩ hK
    obtain ⟨y, hy, hyx⟩ := dec_found hpre hx
    have hds : decidedS ls = (x.f2, true, 0) := by unfold decidedS; rw [if_neg (by omega), if_neg (by rw [HR.out]; simp), hy, ← hyx]
    refine wpIn_wide.2 ?_
    go_wp2
    refine ⟨by simp, .inl ⟨_, _, rfl, run_takeDeferred hK, ?_⟩⟩
    refine ⟨_, results_cells3 rfl _ _ rfl rfl rfl ((World.putObj_heap_other (by omega)).trans b1) ((World.putObj_heap_other (by omega)).trans b2) ((World.putObj_heap_other (by omega)).trans b3) (fun _ h => load_str h) (fun _ h => load_bool h) (fun _ h => load_errno h), ?_, ?_⟩
    · rw [hds]
    · exact hB.trans (belowK_b (w := W0) (by have := zB.size; omega) _ D _ _ hD hK rfl rfl)
end Go.Proofs.Ytnllilpbgenjbaa.G
