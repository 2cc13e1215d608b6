/- What a node keeps: sizes, holds, crashes, lays. -/
import Derived.Test.YtmafolojopjenaaJouG
import Derived.Test.YtmafolojopjenaaPx0
import Derived.Deep.RegionWith
import Derived.Test.YtmafolojopjenaaCat
section
namespace Go.Proofs.Ytmafolojopjenaa.G
open Go.RowKit Go.Shelf Go.Proofs.YtmafolojopjenaaW.PrintWords Go.Proofs.Ytmafolojopjenaa.Cr Go.Proofs.Ytmafolojopjenaa.Jo
set_option linter.unusedVariables false
set_option linter.unusedSimpArgs false
attribute [local go_sem] Oper.semAt_some

/-- A store: its snapshot, its records, how the next write is cut, whether it is, whether it is down, its capacity. -/
structure St where
  snap : ByteArray
  recs : ByteArray
  cut : Int
  isCut : Bool
  isDown : Bool
  cap : Int
def stC (s : St) : Array Value := #[.string s.snap, .string s.recs, .int .i64 s.cut, .bool s.isCut, .bool s.isDown, .int .i64 s.cap]
def StS (W : World) (g : Nat) (s : St) : Prop := Blk W g 60 (stC s)
set_option maxRecDepth 100000 in
set_option maxHeartbeats 4000000 in
theorem sizes1_in (n : Nat) (hn : 1 ≤ n) (l Bs g : Nat) (s : St) (J Jx : List Nat → World → Prop)
    (W : World) (hY : ∀ pre x W1, J pre W1 → pre.length < 2 → YieldAt Fence.wide (n - 1) Try.prog l #[.int .i64 (x : Nat)] W1 fun e W' =>
      (e = .returned (.bool true) ∧ J (pre ++ [x]) W' ∧ Keeps (fun k => k = Bs ∨ k = g) W1 W') ∨ (e = .returned (.bool false) ∧ Jx (pre ++ [x]) W'))
    (hBs : W.cell? ⟨Bs, 0, none⟩ = some (.pointer (some ⟨g, 0, none⟩))) (hs : StS W g s) (h0 : J [] W) :
    CallsIn Fence.wide n Try.prog 60 #[.func (.yield l) #[] #[], .pointer (some ⟨Bs, 0, none⟩)] W fun e W' => (∃ v, e = .returned v) ∧
      ((∃ ys, ys = [s.snap.size, s.recs.size] ∧ J ys W') ∨ (∃ pre, pre <+: [s.snap.size, s.recs.size] ∧ Jx pre W')) := by
  refine callsIn_of_wp Try.func60 rfl trivial ?_ rfl
  simp only [Try.ntmps60, List.size_toArray, List.length_cons, List.length_nil, Nat.reduceAdd, Nat.reduceSub, Array.replicate_succ, Array.replicate_zero, List.push_toArray, List.append_toArray, List.nil_append, List.cons_append]
  have c0 : W.cell? ⟨g, 0, none⟩ = some (.string s.snap) := hs.cell 0
  obtain ⟨fn, tmps, assign, body, hy, hR⟩ := hY [] s.snap.size W h0 (by simp)
  gi_wp2
  refine hR.mono ?_
  rintro e W3 (⟨rfl, hJ3, hk3⟩ | ⟨rfl, hJx3⟩)
  · have d0 : W3.cell? ⟨Bs, 0, none⟩ = some (.pointer (some ⟨g, 0, none⟩)) := (hk3.cell (p := ⟨Bs, 0, none⟩) (.inl rfl)).trans hBs
    have d1 : W3.cell? ⟨g, 1, none⟩ = some (.string s.recs) := (Blk.keeps hs hk3 (.inr rfl)).cell 1
    obtain ⟨fn2, tmps2, assign2, body2, hy2, hR2⟩ := hY _ s.recs.size W3 hJ3 (by simp)
    clear hy hR hBs c0
    gi_wp2
    refine hR2.mono ?_
    rintro e W4 (⟨rfl, hJ4, hk4⟩ | ⟨rfl, hJx4⟩)
    · gi_wp2
      go_end0
      exact ⟨⟨_, rfl⟩, .inl ⟨_, rfl, hJ4⟩⟩
    · gi_wp2
      go_end0
      exact ⟨⟨_, rfl⟩, .inr ⟨_, List.prefix_refl _, hJx4⟩⟩
  · gi_wp2
    go_end0
    exact ⟨⟨_, rfl⟩, .inr ⟨_, ⟨[s.recs.size], rfl⟩, hJx3⟩⟩
theorem sizes_in (n g : Nat) (w : World) :
    CallsIn Fence.wide n Try.prog 50 #[.pointer (some ⟨g, 0, none⟩)] w fun e w' => e = .returned (.func (.func 60) #[] #[.pointer (some ⟨w.heap.size, 0, none⟩)]) ∧ w' = w.alloc (.cells #[.pointer (some ⟨g, 0, none⟩)] 74) := by
  refine callsIn_of_wp Try.func50 rfl trivial ?_ rfl
  simp only [Try.ntmps50, List.size_toArray, List.length_cons, List.length_nil, Nat.reduceAdd, Nat.reduceSub, Array.replicate_succ, Array.replicate_zero, List.push_toArray, List.append_toArray, List.nil_append, List.cons_append]
  gi_wp2
  go_ret
  exact ⟨rfl, rfl⟩
theorem sizes_stops (n : Nat) (hn : 1 ≤ n) (Bs g : Nat) (s : St) (w : World) (hA : Bs < w.heap.size) (hBs : w.cell? ⟨Bs, 0, none⟩ = some (.pointer (some ⟨g, 0, none⟩))) (hs : StS w g s) :
    SeqStopsK Fence.wide n Try.prog 60 #[.pointer (some ⟨Bs, 0, none⟩)] (fun x : Nat => #[.int .i64 (x : Int)]) (Keeps (fun k => k = Bs ∨ k = g)) (fun ys => ys = [s.snap.size, s.recs.size]) (fun pre => pre <+: [s.snap.size, s.recs.size]) 2 w := fun l J Jx W hW _ _ hY h0 =>
  sizes1_in n hn l Bs g s J Jx W hY ((hW.cell (p := ⟨Bs, 0, none⟩) hA).trans hBs) (Blk.below hs hW hs.lt) h0
theorem ret_i64 {a b : Int} (h : a = b) : Ending.returned (.int .i64 a) = .returned (.int .i64 b) := by rw [h]
/-- The sum of what came, as the machine adds. -/
def addW (a : Int) (x : Nat) : Int := wrap64 (a + (x : Int))
theorem addW_in (a : Int) (x : Nat) (h0 : 0 ≤ a) (h : a + (x : Int) ≤ 9223372036854775807) : addW a x = a + (x : Int) := by
  unfold addW
  exact IntWalk.wrap64_in _ (by omega)
def sumN (l : List Nat) : Int := l.foldl addW 0
theorem sumN_snoc (l : List Nat) (x : Nat) : sumN (l ++ [x]) = wrap64 (sumN l + (x : Int)) := by
  have h : sumN (l ++ [x]) = addW (sumN l) x := by unfold sumN; rw [List.foldl_append, List.foldl_cons, List.foldl_nil]
  rw [h, addW]
theorem sumN_two (a b : Nat) (ha : a ≤ 140737488351232) (hb : b ≤ 140737488351232) : sumN [a, b] = (a : Int) + (b : Int) := by
  have h : sumN [a, b] = addW (addW 0 a) b := by unfold sumN; rw [List.foldl_cons, List.foldl_cons, List.foldl_nil]
  rw [h, addW_in 0 a (by omega) (by omega), Int.zero_add, addW_in _ _ (by omega) (by omega)]
set_option maxRecDepth 100000 in
set_option maxHeartbeats 4000000 in
theorem holds.below (g : Nat) (s : St) (w : World) (hs : StS w g s) (h1 : s.snap.size ≤ 140737488351232) (h2 : s.recs.size ≤ 140737488351232) :
    Calls Try.prog 38 #[.pointer (some ⟨g, 0, none⟩)] w fun e w' => e = .returned (.int .i64 (s.snap.size + s.recs.size)) ∧ Below w.heap.size w w' := by
  refine (callsIn_wide (n := 6)).1 ?_
  refine callsIn_of_wp_marks Try.func38 rfl trivial ?_ rfl
  simp only [Try.ntmps38, List.size_toArray, List.length_cons, List.length_nil, Nat.reduceAdd, Nat.reduceSub, Array.replicate_succ, Array.replicate_zero, List.push_toArray, List.append_toArray, List.nil_append, List.cons_append]
  refine wpIn_wide.2 ?_
  go_wp2_with (go_at_call 50; refine ((callsIn_wide (n := 6)).1 (sizes_in 6 _ _)).mono ?_; rintro e w' ⟨rfl, rfl⟩)
  have hz := Boxed.new (w.alloc (.cells #[.int .i64 0] 3)) 74 (.pointer (some ⟨g, 0, none⟩))
  have hx0 := (Boxed.new w 3 (.int .i64 0)).alloc (.cells #[.pointer (some ⟨g, 0, none⟩)] 74)
  have hs0 : StS ((w.alloc (.cells #[.int .i64 0] 3)).alloc (.cells #[.pointer (some ⟨g, 0, none⟩)] 74)) g s := Blk.alloc (Blk.alloc hs _) _
  have hB0 : Below w.heap.size w ((w.alloc (.cells #[.int .i64 0] 3)).alloc (.cells #[.pointer (some ⟨g, 0, none⟩)] 74)) := ((Below.refl _ w).alloc (Nat.le_refl _) _).alloc (by simp) _
  have hg : g < w.heap.size := hs.lt
  simp only [World.size_alloc] at hz
  obtain ⟨W0, hW0⟩ : ∃ W0, (w.alloc (.cells #[.int .i64 0] 3)).alloc (.cells #[.pointer (some ⟨g, 0, none⟩)] 74) = W0 := ⟨_, rfl⟩
  have hsz : W0.heap.size = w.heap.size + 2 := by rw [← hW0]; simp
  rw [hW0] at hz hx0 hB0 hs0 ⊢
  clear hW0
  refine wpIn_wide.1 (?_ : Code.wpIn Fence.wide 6 Try.prog _ _ _ _)
  refine wpIn_rangeFunc_ownF rfl (by omega) (gf := 60) (lb := #[.pointer (some ⟨w.heap.size + 1, 0, none⟩)]) rfl trivial (enters_of Try.func60 (by kernel_rfl) rfl)
    (sizes_stops (6 - 1) (by omega) (w.heap.size + 1) g s W0 (by omega) hz.cell hs0) Keeps.trans (keeps_b (by rintro k (rfl | rfl) <;> omega)) (Below.refl _ _) (fun _ => rfl)
    (fun pre W => Boxed W w.heap.size 3 (.int .i64 (sumN pre)) ∧ Below w.heap.size w W)
    (fun _ _ _ => False)
    (OwnFrom.and (Own.from (boxed_own _ _ _) _) (ownFrom_below (Nat.le_refl _) (by omega)))
    (fun _ _ _ _ _ hs _ _ => hs)
    ⟨hx0, hB0⟩
    (fun x => { tmps := #[.pointer (some ⟨g, 0, none⟩), undef, .int .i64 0, .pointer (some ⟨w.heap.size, 0, none⟩), .int .i64 (x : Int), .pointer (some ⟨g, 0, none⟩), .func (.func 60) #[] #[.pointer (some ⟨w.heap.size + 1, 0, none⟩)], .int .i64 (x : Int), undef, undef, undef, undef], defers := [] }) ?assign ?body ?done ?stop
  case assign =>
    intro l x W K hK
    gi_wp2
    exact hK
  case body =>
    rintro l pre x W ⟨hb, hB⟩ _
    have hc0 := hb.cell
    have hf0 := hb.frozen
    gi_wp2
    refine ⟨KeepsOthers.setCell _ _ _, (Keeps.refl _ W).setCell (p := ⟨w.heap.size, 0, none⟩) (by show ¬ (w.heap.size = _ ∨ w.heap.size = _); omega) _, ?_, hB.setCell (p := ⟨w.heap.size, 0, none⟩) (Nat.le_refl _) _⟩
    rw [sumN_snoc]
    exact hb.set _
  case done =>
    rintro D ys W hD rfl ⟨hb, hB⟩ hK
    have hc0 := hb.cell
    go_wp2
    refine ⟨by simp, .inl ⟨_, _, rfl, run_takeDeferred hK, ?_⟩⟩
    refine ⟨_, results_tmp rfl _ _ _, ?_⟩
    exact ⟨ret_i64 (sumN_two _ _ h1 h2), hB.trans (belowK_b (w := W0) (by omega) W D _ _ hD hK rfl rfl)⟩
  case stop =>
    rintro D c pre W _ _ h _
    exact h.elim
end Go.Proofs.Ytmafolojopjenaa.G
end
section
namespace Go.Proofs.Ytmafolojopjenaa.G
open Go.RowKit Go.Shelf Go.Proofs.YtmafolojopjenaaW.PrintWords Go.Proofs.Ytmafolojopjenaa.Cr Go.Proofs.Ytmafolojopjenaa.Jo
set_option linter.unusedVariables false
set_option linter.unusedSimpArgs false
attribute [local go_sem] Oper.semAt_some

theorem StS.set {W : World} {g : Nat} {s : St} (h : StS W g s) (i : Nat) (u : Value) (s' : St) (e : (stC s).setIfInBounds i u = stC s') : StS (W.setCell ⟨g, i, none⟩ u) g s' := by
  have := Blk.set_ h i u
  rw [e] at this
  exact this
def crashS (s : St) : St × Int := if s.isCut then ({ s with isCut := false, isDown := true }, 31) else (s, 0)
theorem crashes.is (g : Nat) (s : St) (w : World) (hs : StS w g s) :
    Calls Try.prog 41 #[.pointer (some ⟨g, 0, none⟩)] w fun e w' => e = .returned (.int .i64 (crashS s).2) ∧ StS w' g (crashS s).1 ∧ w.grownBy w' (some g) := by
  have c3 : w.cell? ⟨g, 3, none⟩ = some (.bool s.isCut) := hs.cell 3
  have f3 : w.frozen? ⟨g, 3, none⟩ = false := hs.frozen 3
  have f4 : w.frozen? ⟨g, 4, none⟩ = false := hs.frozen 4
  have c4 : w.cell? ⟨g, 4, none⟩ = some (.bool s.isDown) := hs.cell 4
  cases hc : s.isCut with
  | false =>
    have hr : crashS s = (s, 0) := by unfold crashS; rw [hc]; rfl
    rw [hc] at c3
    rw [hr]
    have HR := Lib.hid hr; clear hr
    have HC := Lib.hid hc; clear hc
    go_enter Try.func41, Try.ntmps41
    go_wp2
    go_ret
    exact ⟨rfl, hs, grown_refl _ _⟩
  | true =>
    have hr : crashS s = ({ s with isCut := false, isDown := true }, 31) := by unfold crashS; rw [hc]; rfl
    rw [hc] at c3
    rw [hr]
    have HR := Lib.hid hr; clear hr
    have HC := Lib.hid hc; clear hc
    go_enter Try.func41, Try.ntmps41
    go_wp2
    go_ret
    exact ⟨rfl, (hs.set 3 _ { s with isCut := false } rfl).set 4 _ _ rfl, grown_trans (grown_set w ⟨g, 3, none⟩ _) (grown_set _ ⟨g, 4, none⟩ _)⟩
theorem slice_to_n (s : ByteArray) (k : Nat) (h1 : k ≤ s.size) (w : World) : (Instr.slice 9 (.string s) none (some (.int .i64 (k : Int))) none).run Try.prog w = .ok (.string (s.extract 0 k)) w := by
  have := slice_to s (k : Int) (by omega) (by omega) w
  simpa using this
set_option maxRecDepth 100000 in
set_option maxHeartbeats 4000000 in
theorem lays.cut (g : Nat) (s : St) (p : Addr) (t r : ByteArray) (B c k : Nat) (w : World) (hs : StS w g s) (hp : w.cell? p = some (.string t)) (hf : w.frozen? p = false) (hB : w.cell? ⟨B, 0, none⟩ = some (.string r))
    (hc : s.isCut = true) (hk : s.cut = k) (hlt : k < r.size) (hb : t.size ≤ 140737488351232) (hb2 : r.size ≤ 140737488351232) :
    Calls Try.prog 40 #[.pointer (some ⟨g, 0, none⟩), .pointer (some p), .slice (some ⟨B, 0, none⟩) 1 c] w fun e w' => e = .returned (.bool false) ∧ ∃ n, (w.setCell p (.string (t ++ r.extract 0 k))).drewN n = w' := by
  have c2 : w.cell? ⟨g, 2, none⟩ = some (.int .i64 k) := by rw [← hk]; exact hs.cell 2
  have c3 : w.cell? ⟨g, 3, none⟩ = some (.bool true) := by rw [← hc]; exact hs.cell 3
  have d1 : decide ((k : Int) < (r.size : Int)) = true := by simp; omega
  have hsl := slice_to_n r k (by omega)
  have hz : (r.extract 0 k).size = k := by rw [extract_size _ _ _ (by omega)]; omega
  have hl : t.size + (r.extract 0 k).size ≤ 9223372036854775807 := by omega
  have HZ := Lib.hid hz; clear hz
  have HC := Lib.hid hc; clear hc
  have HK := Lib.hid hk; clear hk
  go_enter Try.func40, Try.ntmps40
  go_wp2
  go_step3
  go_wp2
  go_step3
  go_wp2
  refine wp_loop_rounds 2 ?_
  rw [rounds_succ]
  go_wp2
  go_region
  go_wp2
  rw [Exit.noGoto_ret]
  go_ret
  exact ⟨rfl, 1, rfl⟩
set_option maxRecDepth 100000 in
set_option maxHeartbeats 4000000 in
theorem lays.whole (g : Nat) (s : St) (p : Addr) (t r : ByteArray) (B c : Nat) (w : World) (hs : StS w g s) (hp : w.cell? p = some (.string t)) (hf : w.frozen? p = false) (hB : w.cell? ⟨B, 0, none⟩ = some (.string r))
    (hc : s.isCut = false ∨ (r.size : Int) ≤ s.cut) (hb : t.size ≤ 140737488351232) (hb2 : r.size ≤ 140737488351232) :
    Calls Try.prog 40 #[.pointer (some ⟨g, 0, none⟩), .pointer (some p), .slice (some ⟨B, 0, none⟩) 1 c] w fun e w' => e = .returned (.bool true) ∧ w.setCell p (.string (t ++ r)) = w' := by
  have c3 : w.cell? ⟨g, 3, none⟩ = some (.bool s.isCut) := hs.cell 3
  have hl : t.size + r.size ≤ 9223372036854775807 := by omega
  cases hi : s.isCut with
  | false =>
    rw [hi] at c3
    have HI := Lib.hid hi; clear hi
    have HC := Lib.hid hc; clear hc
    go_enter Try.func40, Try.ntmps40
    go_wp2
    go_step3
    go_wp2
    go_step3
    go_wp2
    refine wp_loop_rounds 2 ?_
    rw [rounds_succ]
    go_wp2
    rw [rounds_succ]
    go_wp2
    rw [Exit.noGoto_ret]
    go_ret
    exact ⟨rfl, rfl⟩
  | true =>
    rw [hi] at c3
    have c2 : w.cell? ⟨g, 2, none⟩ = some (.int .i64 s.cut) := hs.cell 2
    have d1 : decide (s.cut < (r.size : Int)) = false := by
      rcases hc with h | h
      · rw [hi] at h; cases h
      · simpa using h
    have HI := Lib.hid hi; clear hi
    have HC := Lib.hid hc; clear hc
    go_enter Try.func40, Try.ntmps40
    go_wp2
    go_step3
    go_wp2
    go_step3
    go_wp2
    refine wp_loop_rounds 2 ?_
    rw [rounds_succ]
    go_wp2
    rw [rounds_succ]
    go_wp2
    rw [Exit.noGoto_ret]
    go_ret
    exact ⟨rfl, rfl⟩
/-! ### record -/
def recS (s : St) (d : ByteArray) (x : Int) : ByteArray × Int :=
  if s.isDown then (⟨#[]⟩, 31) else if 4096 < d.size ∨ s.cap < x + ((d.size + 9 : Nat) : Int) then (⟨#[]⟩, 30) else (mk (recL d.data.toList), 0)
set_option maxHeartbeats 1000000 in
theorem record.nil (d : ByteArray) (f : Value) (w : World) :
    Calls Try.prog 39 #[.pointer none, .string d, f] w fun e w' => e = .returned (.tuple #[.string ⟨#[]⟩, .int .i64 1]) ∧ w = w' := by
  go_enter Try.func39, Try.ntmps39
  go_wp2
  go_ret2
  exact ⟨rfl, rfl⟩
theorem nothing.is (w : World) : Calls Try.prog 37 #[] w fun e w' => e = .returned (.int .i64 0) ∧ w = w' := by
  go_enter Try.func37, Try.ntmps37
  go_wp2
  go_ret
  exact ⟨rfl, rfl⟩
set_option maxRecDepth 100000 in
set_option maxHeartbeats 4000000 in
theorem record.early (g : Nat) (s : St) (d : ByteArray) (f : Value) (w : World) (hs : StS w g s) (hd : d.size ≤ 140737488351232) (h : s.isDown = true ∨ 4096 < d.size) :
    Calls Try.prog 39 #[.pointer (some ⟨g, 0, none⟩), .string d, f] w fun e w' => (∀ x, e = .returned (.tuple #[.string (recS s d x).1, .int .i64 (recS s d x).2])) ∧ Below w.heap.size w w' := by
  have c4 : w.cell? ⟨g, 4, none⟩ = some (.bool s.isDown) := hs.cell 4
  cases hi : s.isDown with
  | true =>
    have hr : ∀ x, recS s d x = (⟨#[]⟩, 31) := by intro x; unfold recS; rw [hi]; rfl
    rw [hi] at c4
    have HI := Lib.hid hi; clear hi
    have HH := Lib.hid h; clear h
    have HR := Lib.hid hr; clear hr
    go_enter Try.func39, Try.ntmps39
    go_wp2
    go_ret2
    exact ⟨fun x => by rw [HR.out x]; rfl, Below.refl _ _⟩
  | false =>
    have h4 : 4096 < d.size := by rcases h with h | h; rw [hi] at h; cases h; exact h
    have hr : ∀ x, recS s d x = (⟨#[]⟩, 30) := by intro x; unfold recS; rw [hi, if_neg (by decide), if_pos (.inl h4)]
    have hrec : recordS d = (⟨#[]⟩, 30) := by unfold recordS; rw [if_pos h4]
    have hR := fun w => Record.below d hd w
    rw [hrec] at hR
    rw [hi] at c4
    have HI := Lib.hid hi; clear hi
    have HH := Lib.hid h; clear h
    have H4 := Lib.hid h4; clear h4
    have HR := Lib.hid hr; clear hr
    have HRR := Lib.hid hR; clear hR
    have HREC := Lib.hid hrec; clear hrec
    go_enter Try.func39, Try.ntmps39
    go_wp2_with (go_at_call 28; (with_reducible refine (HRR.out _).mono ?_); rintro e w1 ⟨rfl, hb⟩)
    go_quiet (fail)
    go_wp2
    go_ret2
    exact ⟨fun x => by rw [HR.out x]; rfl, below_drewN hb _⟩
set_option maxRecDepth 100000 in
set_option maxHeartbeats 4000000 in
theorem record.nothing (g : Nat) (s : St) (d : ByteArray) (w : World) (hs : StS w g s) (hd : d.size ≤ 4096) (hdn : s.isDown = false) (h1 : s.snap.size ≤ 140737488351232) (h2 : s.recs.size ≤ 140737488351232) :
    Calls Try.prog 39 #[.pointer (some ⟨g, 0, none⟩), .string d, .func (.func 37) #[] #[]] w fun e w' => e = .returned (.tuple #[.string (recS s d 0).1, .int .i64 (recS s d 0).2]) ∧ Below w.heap.size w w' := by
  have c4 : w.cell? ⟨g, 4, none⟩ = some (.bool s.isDown) := hs.cell 4
  rw [hdn] at c4
  have hrec : recordS d = (mk (recL d.data.toList), 0) := by unfold recordS; rw [if_neg (by omega)]
  obtain ⟨R, hRe⟩ : ∃ R, mk (recL d.data.toList) = R := ⟨_, rfl⟩
  have hRz : R.size = d.size + 9 := by rw [← hRe, mk_size, recL_length, size_data]
  have hR := fun w => Record.below d (by omega) w
  rw [hrec, hRe] at hR
  obtain ⟨x, hx⟩ : ∃ x : Int, (0 : Int) = x := ⟨_, rfl⟩
  rw [hx]
  have hx0 : 0 ≤ x ∧ x ≤ 400000000000000 := by omega
  have hwr := IntWalk.i64_in (x + (R.size : Int)) (by omega)
  have hH : ∀ w1, Below w.heap.size w w1 → Calls Try.prog 37 #[] w1 fun e w' => e = .returned (.int .i64 x) ∧ Below w1.heap.size w1 w' := fun w1 _ => (nothing.is w1).mono fun e w' ⟨he, hw⟩ => ⟨by rw [he, ← hx], hw ▸ Below.refl _ _⟩
  have hC : ∀ w1, Below w.heap.size w w1 → w1.cell? ⟨g, 5, none⟩ = some (.int .i64 s.cap) := fun w1 hb => (Blk.below hs hb hs.lt).cell 5
  have hcase : recS s d x = if s.cap < x + (R.size : Int) then (⟨#[]⟩, 30) else (R, 0) := by
    unfold recS
    rw [hdn, if_neg (by decide), hRz, hRe]
    by_cases hc : s.cap < x + ((d.size + 9 : Nat) : Int)
    · rw [if_pos hc, if_pos (.inr hc)]
    · rw [if_neg hc, if_neg (by omega)]
  have HX := Lib.hid hx; clear hx
  have HDN := Lib.hid hdn; clear hdn
  have HRR := Lib.hid hR; clear hR
  have HREC := Lib.hid hrec; clear hrec
  have HRE := Lib.hid hRe; clear hRe
  have HRZ := Lib.hid hRz; clear hRz
  have HH := Lib.hid hH; clear hH
  have HC := Lib.hid hC; clear hC
  by_cases hcap : s.cap < x + (R.size : Int)
  · rw [hcase, if_pos hcap]
    have hd2 : decide (s.cap < x + (R.size : Int)) = true := by simpa using hcap
    have HCA := Lib.hid hcap; clear hcap
    have HCS := Lib.hid hcase; clear hcase
    go_enter Try.func39, Try.ntmps39
    go_wp2_with (go_at_call 28; (with_reducible refine (HRR.out _).mono ?_); rintro e w1 ⟨rfl, hb⟩; have hc5 := HC.out w1 hb)
    go_region_held3 (fun W => W.cell? ⟨g, 5, none⟩ = some (.int .i64 s.cap) ∧ Below w.heap.size w W) (first | exact ⟨hc5, hb.drew⟩ | exact ⟨HC.out _ (below_then hb.drew hb.size (by assumption)), below_then hb.drew hb.size (by assumption)⟩) (first | (go_at_call 37; (with_reducible refine (HH.out _ hb.drew).mono ?_); rintro e w2 ⟨rfl, hb2⟩))
    go_wp2
    go_ret2
    exact ⟨rfl, below_then hb.drew hb.size hb2⟩
  · rw [hcase, if_neg hcap]
    have hd2 : decide (s.cap < x + (R.size : Int)) = false := by simpa using hcap
    have HCA := Lib.hid hcap; clear hcap
    have HCS := Lib.hid hcase; clear hcase
    go_enter Try.func39, Try.ntmps39
    go_wp2_with (go_at_call 28; (with_reducible refine (HRR.out _).mono ?_); rintro e w1 ⟨rfl, hb⟩; have hc5 := HC.out w1 hb)
    go_region_held3 (fun W => W.cell? ⟨g, 5, none⟩ = some (.int .i64 s.cap) ∧ Below w.heap.size w W) (first | exact ⟨hc5, hb.drew⟩ | exact ⟨HC.out _ (below_then hb.drew hb.size (by assumption)), below_then hb.drew hb.size (by assumption)⟩) (first | (go_at_call 37; (with_reducible refine (HH.out _ hb.drew).mono ?_); rintro e w2 ⟨rfl, hb2⟩))
    go_wp2
    go_ret2
    exact ⟨rfl, below_then hb.drew hb.size hb2⟩
set_option maxRecDepth 100000 in
set_option maxHeartbeats 4000000 in
theorem record.holds (g : Nat) (s : St) (d : ByteArray) (w : World) (hs : StS w g s) (hd : d.size ≤ 4096) (hdn : s.isDown = false) (h1 : s.snap.size ≤ 140737488351232) (h2 : s.recs.size ≤ 140737488351232) :
    Calls Try.prog 39 #[.pointer (some ⟨g, 0, none⟩), .string d, .func (.func 38) #[.pointer (some ⟨g, 0, none⟩)] #[]] w fun e w' => e = .returned (.tuple #[.string (recS s d ((s.snap.size : Int) + (s.recs.size : Int))).1, .int .i64 (recS s d ((s.snap.size : Int) + (s.recs.size : Int))).2]) ∧ Below w.heap.size w w' := by
  have c4 : w.cell? ⟨g, 4, none⟩ = some (.bool s.isDown) := hs.cell 4
  rw [hdn] at c4
  have hrec : recordS d = (mk (recL d.data.toList), 0) := by unfold recordS; rw [if_neg (by omega)]
  obtain ⟨R, hRe⟩ : ∃ R, mk (recL d.data.toList) = R := ⟨_, rfl⟩
  have hRz : R.size = d.size + 9 := by rw [← hRe, mk_size, recL_length, size_data]
  have hR := fun w => Record.below d (by omega) w
  rw [hrec, hRe] at hR
  obtain ⟨x, hx⟩ : ∃ x : Int, (((s.snap.size : Int) + (s.recs.size : Int)) : Int) = x := ⟨_, rfl⟩
  rw [hx]
  have hx0 : 0 ≤ x ∧ x ≤ 400000000000000 := by omega
  have hwr := IntWalk.i64_in (x + (R.size : Int)) (by omega)
  have hH : ∀ w1, Below w.heap.size w w1 → Calls Try.prog 38 #[.pointer (some ⟨g, 0, none⟩)] w1 fun e w' => e = .returned (.int .i64 x) ∧ Below w1.heap.size w1 w' := fun w1 hb => (holds.below g s w1 (Blk.below hs hb hs.lt) h1 h2).mono fun e w' ⟨he, hw⟩ => ⟨by rw [he, ← hx], hw⟩
  have hC : ∀ w1, Below w.heap.size w w1 → w1.cell? ⟨g, 5, none⟩ = some (.int .i64 s.cap) := fun w1 hb => (Blk.below hs hb hs.lt).cell 5
  have hcase : recS s d x = if s.cap < x + (R.size : Int) then (⟨#[]⟩, 30) else (R, 0) := by
    unfold recS
    rw [hdn, if_neg (by decide), hRz, hRe]
    by_cases hc : s.cap < x + ((d.size + 9 : Nat) : Int)
    · rw [if_pos hc, if_pos (.inr hc)]
    · rw [if_neg hc, if_neg (by omega)]
  have HX := Lib.hid hx; clear hx
  have HDN := Lib.hid hdn; clear hdn
  have HRR := Lib.hid hR; clear hR
  have HREC := Lib.hid hrec; clear hrec
  have HRE := Lib.hid hRe; clear hRe
  have HRZ := Lib.hid hRz; clear hRz
  have HH := Lib.hid hH; clear hH
  have HC := Lib.hid hC; clear hC
  by_cases hcap : s.cap < x + (R.size : Int)
  · rw [hcase, if_pos hcap]
    have hd2 : decide (s.cap < x + (R.size : Int)) = true := by simpa using hcap
    have HCA := Lib.hid hcap; clear hcap
    have HCS := Lib.hid hcase; clear hcase
    go_enter Try.func39, Try.ntmps39
    go_wp2_with (go_at_call 28; (with_reducible refine (HRR.out _).mono ?_); rintro e w1 ⟨rfl, hb⟩; have hc5 := HC.out w1 hb)
    go_region_held3 (fun W => W.cell? ⟨g, 5, none⟩ = some (.int .i64 s.cap) ∧ Below w.heap.size w W) (first | exact ⟨hc5, hb.drew⟩ | exact ⟨HC.out _ (below_then hb.drew hb.size (by assumption)), below_then hb.drew hb.size (by assumption)⟩) (first | (go_at_call 38; (with_reducible refine (HH.out _ hb.drew).mono ?_); rintro e w2 ⟨rfl, hb2⟩))
    go_wp2
    go_ret2
    exact ⟨rfl, below_then hb.drew hb.size hb2⟩
  · rw [hcase, if_neg hcap]
    have hd2 : decide (s.cap < x + (R.size : Int)) = false := by simpa using hcap
    have HCA := Lib.hid hcap; clear hcap
    have HCS := Lib.hid hcase; clear hcase
    go_enter Try.func39, Try.ntmps39
    go_wp2_with (go_at_call 28; (with_reducible refine (HRR.out _).mono ?_); rintro e w1 ⟨rfl, hb⟩; have hc5 := HC.out w1 hb)
    go_region_held3 (fun W => W.cell? ⟨g, 5, none⟩ = some (.int .i64 s.cap) ∧ Below w.heap.size w W) (first | exact ⟨hc5, hb.drew⟩ | exact ⟨HC.out _ (below_then hb.drew hb.size (by assumption)), below_then hb.drew hb.size (by assumption)⟩) (first | (go_at_call 38; (with_reducible refine (HH.out _ hb.drew).mono ?_); rintro e w2 ⟨rfl, hb2⟩))
    go_wp2
    go_ret2
    exact ⟨rfl, below_then hb.drew hb.size hb2⟩
end Go.Proofs.Ytmafolojopjenaa.G
end
section
namespace Go.Proofs.Ytmafolojopjenaa.G
open Go.RowKit Go.Shelf Go.Proofs.YtmafolojopjenaaW.PrintWords Go.Proofs.Ytmafolojopjenaa.Cr Go.Proofs.Ytmafolojopjenaa.Jo
set_option linter.unusedVariables false
set_option linter.unusedSimpArgs false
attribute [local go_sem] Oper.semAt_some

structure StOk (s : St) : Prop where
  room : (s.snap.size : Int) + s.recs.size ≤ s.cap
  cap : s.cap ≤ 1048576
  cut : s.isCut = true → 0 ≤ s.cut
/-- What is kept of bytes that are laid. -/
def keptS (s : St) (r : ByteArray) : ByteArray := if s.isCut = true ∧ s.cut < (r.size : Int) then r.extract 0 s.cut.toNat else r
def wholeB (s : St) (r : ByteArray) : Bool := !(s.isCut && decide (s.cut < (r.size : Int)))
theorem kept_size (s : St) (r : ByteArray) : (keptS s r).size ≤ r.size := by
  unfold keptS
  split
  · rw [ByteArray.size_extract]; omega
  · exact Nat.le_refl _
theorem lays.is (g : Nat) (s : St) (p : Addr) (t r : ByteArray) (B c : Nat) (w : World) (hs : StS w g s) (hp : w.cell? p = some (.string t)) (hf : w.frozen? p = false) (hB : w.cell? ⟨B, 0, none⟩ = some (.string r))
    (hc : s.isCut = true → 0 ≤ s.cut) (hb : t.size ≤ 140737488351232) (hb2 : r.size ≤ 140737488351232) :
    Calls Try.prog 40 #[.pointer (some ⟨g, 0, none⟩), .pointer (some p), .slice (some ⟨B, 0, none⟩) 1 c] w fun e w' => e = .returned (.bool (wholeB s r)) ∧ ∃ n, (w.setCell p (.string (t ++ keptS s r))).drewN n = w' := by
  by_cases h : s.isCut = true ∧ s.cut < (r.size : Int)
  · have h0 := hc h.1
    have := lays.cut g s p t r B c s.cut.toNat w hs hp hf hB h.1 (by omega) (by omega) hb hb2
    unfold keptS wholeB
    rw [if_pos h, h.1, show decide (s.cut < (r.size : Int)) = true by simpa using h.2]
    exact this
  · have := lays.whole g s p t r B c w hs hp hf hB (by
      cases hi : s.isCut with
      | false => exact .inl rfl
      | true => exact .inr (Int.not_lt.1 fun k => h ⟨hi, k⟩)) hb hb2
    unfold keptS wholeB
    rw [if_neg h]
    refine this.mono fun e w' ⟨he, hw⟩ => ⟨?_, 0, hw⟩
    rw [he]
    congr 2
    cases hi : s.isCut with
    | false => rfl
    | true =>
      have : ¬ s.cut < (r.size : Int) := fun k => h ⟨hi, k⟩
      simp [this]
def sumS_ (s : St) : Int := (s.snap.size : Int) + (s.recs.size : Int)
def writeS (s : St) (d : ByteArray) : St × Int :=
  if (recS s d (sumS_ s)).2 = 0 then crashS { s with recs := s.recs ++ keptS s (recS s d (sumS_ s)).1 } else (s, (recS s d (sumS_ s)).2)
theorem recS_ok {s : St} {d : ByteArray} {x : Int} (h : (recS s d x).2 = 0) : s.isDown = false ∧ d.size ≤ 4096 ∧ x + ((d.size + 9 : Nat) : Int) ≤ s.cap ∧ (recS s d x).1 = mk (recL d.data.toList) ∧ (recS s d x).1.size = d.size + 9 := by
  unfold recS at h ⊢
  cases hi : s.isDown with
  | true => rw [hi] at h; simp at h
  | false =>
    rw [hi] at h
    by_cases hc : 4096 < d.size ∨ s.cap < x + ((d.size + 9 : Nat) : Int)
    · rw [if_neg (by decide), if_pos hc] at h; simp at h
    · rw [if_neg (by decide), if_neg hc]
      exact ⟨rfl, by omega, by omega, rfl, by rw [mk_size, recL_length, size_data]⟩
set_option maxRecDepth 100000 in
set_option maxHeartbeats 4000000 in
theorem Write.is (g : Nat) (s : St) (d : ByteArray) (w : World) (hs : StS w g s) (ho : StOk s) (hd : d.size ≤ 140737488351232) :
    Calls Try.prog 16 #[.pointer (some ⟨g, 0, none⟩), .string d] w fun e w' => e = .returned (.int .i64 (writeS s d).2) ∧ StS w' g (writeS s d).1 ∧ w.grownBy w' (some g) := by
  have hg : g < w.heap.size := hs.lt
  obtain ⟨o1, o2, o3⟩ := ho
  have hrec : ∀ w1, Below w.heap.size w w1 → Calls Try.prog 39 #[.pointer (some ⟨g, 0, none⟩), .string d, .func (.func 38) #[.pointer (some ⟨g, 0, none⟩)] #[]] w1 fun e w' => e = .returned (.tuple #[.string (recS s d (sumS_ s)).1, .int .i64 (recS s d (sumS_ s)).2]) ∧ Below w1.heap.size w1 w' := by
    intro w1 hb
    have hs1 : StS w1 g s := Blk.below hs hb hg
    by_cases h : s.isDown = true ∨ 4096 < d.size
    · exact (record.early g s d _ w1 hs1 hd h).mono fun e w' ⟨he, hb'⟩ => ⟨he _, hb'⟩
    · exact record.holds g s d w1 hs1 (by omega) (by cases hi : s.isDown with | false => rfl | true => exact absurd (.inl hi) h) (by omega) (by omega)
  obtain ⟨r, c, hrc⟩ : ∃ r c, recS s d (sumS_ s) = (r, c) := ⟨_, _, rfl⟩
  by_cases hc : c = 0
  · have hok := recS_ok (s := s) (d := d) (x := sumS_ s) (by rw [hrc]; exact hc)
    rw [hrc] at hok hrec
    obtain ⟨k1, k2, k3, k4, k5⟩ := hok
    have hw : writeS s d = crashS { s with recs := s.recs ++ keptS s r } := by unfold writeS; rw [hrc, if_pos hc]
    rw [hw]
    subst hc
    have hk := kept_size s r
    have hsum : sumS_ s = (s.snap.size : Int) + (s.recs.size : Int) := rfl
    have hlay : ∀ w1 B, StS w1 g s → w1.cell? ⟨B, 0, none⟩ = some (.string r) → Calls Try.prog 40 #[.pointer (some ⟨g, 0, none⟩), .pointer (some ⟨g, 1, none⟩), .slice (some ⟨B, 0, none⟩) 1 1] w1 fun e w' => e = .returned (.bool (wholeB s r)) ∧ ∃ n, (w1.setCell ⟨g, 1, none⟩ (.string (s.recs ++ keptS s r))).drewN n = w' := by
      intro w1 B h1 h2
      exact lays.is g s ⟨g, 1, none⟩ s.recs r B 1 w1 h1 (h1.cell 1) (h1.frozen 1) h2 o3 (by omega) (by simp only at k5; omega)
    have hcr : ∀ w1, StS w1 g { s with recs := s.recs ++ keptS s r } → _ := fun w1 h => crashes.is g _ w1 h
    obtain ⟨wb, hwb⟩ : ∃ wb, wholeB s r = wb := ⟨_, rfl⟩
    rw [hwb] at hlay
    have HREC := Lib.hid hrec; clear hrec
    have HLAY := Lib.hid hlay; clear hlay
    have HCR := Lib.hid hcr; clear hcr
    have HRC := Lib.hid hrc; clear hrc
    have HW := Lib.hid hw; clear hw
    have HWB := Lib.hid hwb; clear hwb
    have HS := Lib.hid hsum; clear hsum
    have K1 := Lib.hid k1; clear k1
    have K4 := Lib.hid k4; clear k4
    have K5 := Lib.hid k5; clear k5
    go_enter Try.func16, Try.ntmps16
    go_wp2_with (go_at_call 39; (with_reducible refine (HREC.out _ (Below.refl _ _)).mono ?_); rintro e w1 ⟨rfl, hb⟩)
    have hs1 : StS w1 g s := Blk.below hs hb hg
    have hB1 := Boxed.new w1 9 (.string r)
    have hs2 : StS (w1.alloc (.cells #[.string r] 9)) g s := Blk.alloc hs1 _
    have L1 := Lib.hid (HLAY.out ((w1.alloc (.cells #[.string r] 9)).drew) w1.heap.size hs2 hB1.cell)
    go_region_with (first | (go_at_call 40; refine L1.out.mono ?_; rintro e w2 ⟨rfl, n2, rfl⟩))
    have hs3 : StS (((w1.alloc (.cells #[.string r] 9)).setCell ⟨g, 1, none⟩ (.string (s.recs ++ keptS s r))).drewN (1 + n2)) g { s with recs := s.recs ++ keptS s r } := StS.set (W := w1.alloc (.cells #[.string r] 9)) hs2 1 _ _ rfl
    have hg3 : w.grownBy (((w1.alloc (.cells #[.string r] 9)).setCell ⟨g, 1, none⟩ (.string (s.recs ++ keptS s r))).drewN (1 + n2)) (some g) :=
      grown_drewN (grown_trans (grown_alloc (grown_of hb (some g)) _) (grown_set _ ⟨g, 1, none⟩ _)) _
    go_wp2_with (fail)
    refine (HCR.out _ hs3).mono ?_
    rintro e w4 ⟨rfl, hs4, hg4⟩
    go_wp2
    go_ret
    exact ⟨rfl, hs4, grown_trans hg3 hg4⟩
  · have hw : writeS s d = (s, c) := by unfold writeS; rw [hrc, if_neg hc]
    have hcb : (c == 0) = false := by simpa using hc
    have hcn : (c != 0) = true := by simpa using hc
    rw [hrc] at hrec
    rw [hw]
    have HREC := Lib.hid hrec; clear hrec
    have HRC := Lib.hid hrc; clear hrc
    have HW := Lib.hid hw; clear hw
    have HC := Lib.hid hc; clear hc
    go_enter Try.func16, Try.ntmps16
    go_wp2_with (go_at_call 39; (with_reducible refine (HREC.out _ (Below.refl _ _)).mono ?_); rintro e w1 ⟨rfl, hb⟩)
    go_ret
    exact ⟨rfl, Blk.below hs hb hg, grown_of hb _⟩
theorem Write.nil (d : ByteArray) (w : World) :
    Calls Try.prog 16 #[.pointer none, .string d] w fun e w' => e = .returned (.int .i64 1) ∧ w = w' := by
  go_enter Try.func16, Try.ntmps16
  go_wp2_with (go_at_call 39; (with_reducible refine (record.nil _ _ _).mono ?_); rintro e w1 ⟨rfl, rfl⟩)
  go_ret
  exact ⟨rfl, rfl⟩
end Go.Proofs.Ytmafolojopjenaa.G
end
section
namespace Go.Proofs.Ytmafolojopjenaa.G
open Go.RowKit Go.Shelf Go.Proofs.YtmafolojopjenaaW.PrintWords Go.Proofs.Ytmafolojopjenaa.Cr Go.Proofs.Ytmafolojopjenaa.Jo
set_option linter.unusedVariables false
set_option linter.unusedSimpArgs false
attribute [local go_sem] Oper.semAt_some

def snapS (s : St) (d : ByteArray) : St × Int :=
  if (recS s d 0).2 = 0 then crashS (if wholeB s (recS s d 0).1 then { s with snap := (recS s d 0).1, recs := ⟨#[]⟩ } else s) else (s, (recS s d 0).2)
theorem empty_append (s : ByteArray) : (⟨#[]⟩ : ByteArray) ++ s = s := by
  apply ext_data
  simp
theorem kept_whole {s : St} {r : ByteArray} (h : wholeB s r = true) : keptS s r = r := by
  unfold keptS
  rw [if_neg]
  rintro ⟨h1, h2⟩
  unfold wholeB at h
  rw [h1] at h
  simp at h
  omega
set_option maxRecDepth 100000 in
set_option maxHeartbeats 4000000 in
theorem Snapshot.is (g : Nat) (s : St) (d : ByteArray) (w : World) (hs : StS w g s) (ho : StOk s) (hd : d.size ≤ 140737488351232) :
    Calls Try.prog 18 #[.pointer (some ⟨g, 0, none⟩), .string d] w fun e w' => e = .returned (.int .i64 (snapS s d).2) ∧ StS w' g (snapS s d).1 ∧ w.grownBy w' (some g) := by
  have hg : g < w.heap.size := hs.lt
  obtain ⟨o1, o2, o3⟩ := ho
  have hrec : ∀ w1, Below w.heap.size w w1 → Calls Try.prog 39 #[.pointer (some ⟨g, 0, none⟩), .string d, .func (.func 37) #[] #[]] w1 fun e w' => e = .returned (.tuple #[.string (recS s d 0).1, .int .i64 (recS s d 0).2]) ∧ Below w1.heap.size w1 w' := by
    intro w1 hb
    have hs1 : StS w1 g s := Blk.below hs hb hg
    by_cases h : s.isDown = true ∨ 4096 < d.size
    · exact (record.early g s d _ w1 hs1 hd h).mono fun e w' ⟨he, hb'⟩ => ⟨he _, hb'⟩
    · exact record.nothing g s d w1 hs1 (by omega) (by cases hi : s.isDown with | false => rfl | true => exact absurd (.inl hi) h) (by omega) (by omega)
  obtain ⟨r, c, hrc⟩ : ∃ r c, recS s d 0 = (r, c) := ⟨_, _, rfl⟩
  by_cases hc : c = 0
  · have hok := recS_ok (s := s) (d := d) (x := 0) (by rw [hrc]; exact hc)
    rw [hrc] at hok hrec
    obtain ⟨k1, k2, k3, k4, k5⟩ := hok
    simp only at k5
    have hw : snapS s d = crashS (if wholeB s r then { s with snap := r, recs := ⟨#[]⟩ } else s) := by unfold snapS; rw [hrc, if_pos hc]
    rw [hw]
    subst hc
    have hlay : ∀ w1 b B, StS w1 g s → Boxed w1 b 9 (.string ⟨#[]⟩) → Boxed w1 B 9 (.string r) → Calls Try.prog 40 #[.pointer (some ⟨g, 0, none⟩), .pointer (some ⟨b, 0, none⟩), .slice (some ⟨B, 0, none⟩) 1 1] w1 fun e w' => e = .returned (.bool (wholeB s r)) ∧ ∃ n, (w1.setCell ⟨b, 0, none⟩ (.string (⟨#[]⟩ ++ keptS s r))).drewN n = w' := by
      intro w1 b B h1 h2 h3
      exact lays.is g s ⟨b, 0, none⟩ ⟨#[]⟩ r B 1 w1 h1 h2.cell h2.frozen h3.cell o3 (by decide) (by omega)
    have hcr : ∀ s' w1, StS w1 g s' → _ := fun s' w1 h => crashes.is g s' w1 h
    have hkw := fun h => kept_whole (s := s) (r := r) h
    obtain ⟨wb, hwb⟩ : ∃ wb, wholeB s r = wb := ⟨_, rfl⟩
    rw [hwb] at hlay hkw ⊢
    have HREC := Lib.hid hrec; clear hrec
    have HLAY := Lib.hid hlay; clear hlay
    have HCR := Lib.hid hcr; clear hcr
    have HRC := Lib.hid hrc; clear hrc
    have HW := Lib.hid hw; clear hw
    have HWB := Lib.hid hwb; clear hwb
    have HKW := Lib.hid hkw; clear hkw
    have K1 := Lib.hid k1; clear k1
    have K4 := Lib.hid k4; clear k4
    have K5 := Lib.hid k5; clear k5
    go_enter Try.func18, Try.ntmps18
    go_wp2_with (first | (go_at_call 39; (with_reducible refine (HREC.out _ (Below.refl _ _)).mono ?_); rintro e w1 ⟨rfl, hb⟩))
    have hs1 : StS w1 g s := Blk.below hs hb hg
    have hg1 : g < w1.heap.size := hs1.lt
    refine (HLAY.out _ w1.heap.size (w1.heap.size + 1) (Blk.alloc (Blk.alloc hs1 _) _) ((Boxed.new w1 9 (.string ⟨#[]⟩)).alloc _) (by have := Boxed.new (w1.alloc (.cells #[.string ⟨#[]⟩] 9)) 9 (.string r); rwa [World.size_alloc] at this)).mono ?_
    rintro e w4 ⟨rfl, n, hw4⟩
    have hs4 : StS w4 g s := by rw [← hw4]; exact Blk.far (p := ⟨w1.heap.size, 0, none⟩) (Blk.alloc (Blk.alloc hs1 _) _) (by show g ≠ w1.heap.size; omega) _
    have hb4 : Boxed w4 w1.heap.size 9 (.string (⟨#[]⟩ ++ keptS s r)) := by rw [← hw4]; exact ((Boxed.new w1 9 (.string ⟨#[]⟩)).alloc _).set _
    have hB4 : Below w.heap.size w w4 := by rw [← hw4]; exact below_drewN (((hb.alloc hb.size _).alloc (by have := hb.size; simp; omega) _).setCell (p := ⟨w1.heap.size, 0, none⟩) hb.size _) _
    have HW4 := Lib.hid hw4; clear hw4
    cases wb with
    | false =>
      go_wp2_with (fail)
      refine (HCR.out s _ hs4).mono ?_
      rintro e w5 ⟨rfl, hs5, hg5⟩
      go_wp2
      go_ret
      exact ⟨rfl, hs5, grown_trans (grown_of hB4 _) hg5⟩
    | true =>
      rw [HKW.out rfl, empty_append] at hb4
      have c4 := hb4.cell
      have f0 : w4.frozen? ⟨g, 0, none⟩ = false := hs4.frozen 0
      have f1 : w4.frozen? ⟨g, 1, none⟩ = false := hs4.frozen 1
      have d0 : w4.cell? ⟨g, 0, none⟩ = some (.string s.snap) := hs4.cell 0
      have d1 : w4.cell? ⟨g, 1, none⟩ = some (.string s.recs) := hs4.cell 1
      go_wp2_with (fail)
      refine (HCR.out { s with snap := r, recs := ⟨#[]⟩ } _ ((hs4.set 0 _ { s with snap := r } rfl).set 1 _ _ rfl)).mono ?_
      rintro e w5 ⟨rfl, hs5, hg5⟩
      go_wp2
      go_ret
      exact ⟨rfl, hs5, grown_trans (grown_trans (grown_trans (grown_of hB4 _) (grown_set _ ⟨g, 0, none⟩ _)) (grown_set _ ⟨g, 1, none⟩ _)) hg5⟩
  · have hw : snapS s d = (s, c) := by unfold snapS; rw [hrc, if_neg hc]
    have hcb : (c == 0) = false := by simpa using hc
    have hcn : (c != 0) = true := by simpa using hc
    rw [hrc] at hrec
    rw [hw]
    have HREC := Lib.hid hrec; clear hrec
    have HRC := Lib.hid hrc; clear hrc
    have HW := Lib.hid hw; clear hw
    have HC := Lib.hid hc; clear hc
    go_enter Try.func18, Try.ntmps18
    go_wp2_with (go_at_call 39; (with_reducible refine (HREC.out _ (Below.refl _ _)).mono ?_); rintro e w1 ⟨rfl, hb⟩)
    go_ret
    exact ⟨rfl, Blk.below hs hb hg, grown_of hb _⟩
theorem Snapshot.nil (d : ByteArray) (w : World) :
    Calls Try.prog 18 #[.pointer none, .string d] w fun e w' => e = .returned (.int .i64 1) ∧ w = w' := by
  go_enter Try.func18, Try.ntmps18
  go_wp2_with (go_at_call 39; (with_reducible refine (record.nil _ _ _).mono ?_); rintro e w1 ⟨rfl, rfl⟩)
  go_ret
  exact ⟨rfl, rfl⟩
/-! ### Cut -/
def cutS (s : St) (k : Int) : St × Int := if s.isDown then (s, 31) else if k < 0 then (s, 2) else ({ s with cut := k, isCut := true }, 0)
theorem Cut.is (g : Nat) (s : St) (k : Int) (w : World) (hs : StS w g s) :
    Calls Try.prog 17 #[.pointer (some ⟨g, 0, none⟩), .int .i64 k] w fun e w' => e = .returned (.int .i64 (cutS s k).2) ∧ StS w' g (cutS s k).1 ∧ w.grownBy w' (some g) := by
  have c4 : w.cell? ⟨g, 4, none⟩ = some (.bool s.isDown) := hs.cell 4
  have c2 : w.cell? ⟨g, 2, none⟩ = some (.int .i64 s.cut) := hs.cell 2
  have c3 : w.cell? ⟨g, 3, none⟩ = some (.bool s.isCut) := hs.cell 3
  have f2 : w.frozen? ⟨g, 2, none⟩ = false := hs.frozen 2
  have f3 : w.frozen? ⟨g, 3, none⟩ = false := hs.frozen 3
  cases hi : s.isDown with
  | true =>
    have hr : cutS s k = (s, 31) := by unfold cutS; rw [hi]; rfl
    rw [hi] at c4
    rw [hr]
    have HI := Lib.hid hi; clear hi
    have HR := Lib.hid hr; clear hr
    go_enter Try.func17, Try.ntmps17
    go_wp2
    go_ret
    exact ⟨rfl, hs, grown_refl _ _⟩
  | false =>
    rw [hi] at c4
    by_cases hk : k < 0
    · have hr : cutS s k = (s, 2) := by unfold cutS; rw [hi, if_neg (by decide), if_pos hk]
      have d1 : decide (k < 0) = true := by simpa using hk
      rw [hr]
      have HI := Lib.hid hi; clear hi
      have HR := Lib.hid hr; clear hr
      have HK := Lib.hid hk; clear hk
      go_enter Try.func17, Try.ntmps17
      go_wp2
      go_ret
      exact ⟨rfl, hs, grown_refl _ _⟩
    · have hr : cutS s k = ({ s with cut := k, isCut := true }, 0) := by unfold cutS; rw [hi, if_neg (by decide), if_neg hk]
      have d1 : decide (k < 0) = false := by simpa using hk
      rw [hr]
      have HI := Lib.hid hi; clear hi
      have HR := Lib.hid hr; clear hr
      have HK := Lib.hid hk; clear hk
      go_enter Try.func17, Try.ntmps17
      go_wp2
      go_ret
      exact ⟨rfl, (hs.set 2 _ { s with cut := k } rfl).set 3 _ _ rfl, grown_trans (grown_set _ ⟨g, 2, none⟩ _) (grown_set _ ⟨g, 3, none⟩ _)⟩
theorem Cut.nil (k : Int) (w : World) :
    Calls Try.prog 17 #[.pointer none, .int .i64 k] w fun e w' => e = .returned (.int .i64 1) ∧ w = w' := by
  go_enter Try.func17, Try.ntmps17
  go_wp2
  go_ret
  exact ⟨rfl, rfl⟩
/-! ### New, Holds, Records -/
def newS (c : Int) : St := ⟨⟨#[]⟩, ⟨#[]⟩, 0, false, false, c⟩
theorem New.ok (c : Int) (w : World) (h1 : 64 ≤ c) (h2 : c ≤ 1048576) :
    Calls Try.prog 15 #[.int .i64 c] w fun e w' => e = .returned (.tuple #[.pointer (some ⟨w.heap.size, 0, none⟩), .int .i64 0]) ∧ StS w' w.heap.size (newS c) ∧ Below w.heap.size w w' := by
  have d1 : decide (c < 64) = false := by simp; omega
  have d2 : decide (1048576 < c) = false := by simp; omega
  go_enter Try.func15, Try.ntmps15
  go_wp2
  go_ret2
  exact ⟨rfl, Blk.new w _ _, by go_grown⟩
theorem New.no (c : Int) (w : World) (h1 : c < 64 ∨ 1048576 < c) :
    Calls Try.prog 15 #[.int .i64 c] w fun e w' => e = .returned (.tuple #[.pointer none, .int .i64 2]) ∧ w = w' := by
  by_cases h : c < 64
  · have d1 : decide (c < 64) = true := by simpa using h
    go_enter Try.func15, Try.ntmps15
    go_wp2
    go_ret2
    exact ⟨rfl, rfl⟩
  · have d1 : decide (c < 64) = false := by simpa using h
    have d2 : decide (1048576 < c) = true := by simp; omega
    go_enter Try.func15, Try.ntmps15
    go_wp2
    go_ret2
    exact ⟨rfl, rfl⟩
theorem Holds.is (g : Nat) (s : St) (w : World) (hs : StS w g s) (h1 : s.snap.size ≤ 140737488351232) (h2 : s.recs.size ≤ 140737488351232) :
    Calls Try.prog 21 #[.pointer (some ⟨g, 0, none⟩)] w fun e w' => e = .returned (.int .i64 (sumS_ s)) ∧ Below w.heap.size w w' := by
  go_enter Try.func21, Try.ntmps21
  go_wp2_with (go_at_call 38; (with_reducible refine (holds.below g s _ hs h1 h2).mono ?_); rintro e w1 ⟨rfl, hb⟩)
  go_ret
  exact ⟨rfl, hb⟩
theorem Holds.nil (w : World) :
    Calls Try.prog 21 #[.pointer none] w fun e w' => e = .returned (.int .i64 0) ∧ w = w' := by
  go_enter Try.func21, Try.ntmps21
  go_wp2
  go_ret
  exact ⟨rfl, rfl⟩
theorem Records.is (g : Nat) (s : St) (w : World) (hs : StS w g s) (h2 : s.recs.size ≤ 1000000000) :
    Calls Try.prog 22 #[.pointer (some ⟨g, 0, none⟩)] w fun e w' => ∃ v, e = .returned v ∧ Kd.R Kd.string 9 w' w.heap.size (fun _ => True) v (readS s.recs).1 ∧ Below w.heap.size w w' := by
  have c1 : w.cell? ⟨g, 1, none⟩ = some (.string s.recs) := hs.cell 1
  go_enter Try.func22, Try.ntmps22
  go_wp2_with (go_at_call 25; (with_reducible refine (Read.below _ h2 _).mono ?_); rintro e w1 ⟨v, rfl, hR, hb⟩)
  go_ret
  exact ⟨v, rfl, hR, hb⟩
theorem Records.nil (w : World) :
    Calls Try.prog 22 #[.pointer none] w fun e w' => e = .returned (.slice none 0 0) ∧ w = w' := by
  go_enter Try.func22, Try.ntmps22
  go_wp2
  go_ret
  exact ⟨rfl, rfl⟩
end Go.Proofs.Ytmafolojopjenaa.G
end
section
namespace Go.Proofs.Ytmafolojopjenaa.G
open Go.RowKit Go.Shelf Go.Proofs.YtmafolojopjenaaW.PrintWords Go.Proofs.Ytmafolojopjenaa.Cr Go.Proofs.Ytmafolojopjenaa.Jo
set_option linter.unusedVariables false
set_option linter.unusedSimpArgs false
attribute [local go_sem] Oper.semAt_some

theorem R_head {W : World} {base : Nat} {e : Nat} {ok : Nat → Prop} {v : Value} {x : ByteArray} {l : List ByteArray} (h : Kd.R Kd.string e W base ok v (x :: l)) :
    ∃ g cap, v = .slice (some ⟨g, 0, none⟩) (l.length + 1) cap ∧ W.cell? ⟨g, 0, none⟩ = some (.string x) ∧ base ≤ g := by
  obtain ⟨_, inner, ho, hr⟩ := h
  have hg := ho
  rcases ho with ⟨hl, ⟨_, h0⟩ | ⟨g, cap, cur, rfl, hb, hh, h1, h2, h3, h4⟩⟩
  · simp at h0
  · refine ⟨g, cap, rfl, ?_, hb⟩
    have hk : inner.take 1 = [.string x] := by
      have := hr.2 0 x rfl
      rw [Nat.zero_mul, List.drop_zero] at this
      exact this
    have hi : inner[0]? = some (.string x) := by
      have := congrArg (fun z : List Value => z[0]?) hk
      simpa [List.getElem?_take] using this
    have := World.ownsRow.cells hg (g := g) rfl 0 _ hi
    simpa [Addr.add] using this
def recoverS (s : St) : St := { s with recs := repairS s.recs, isCut := false, isDown := false }
def headS (s : St) : ByteArray := (readS s.snap).1.headD ⟨#[]⟩
theorem head_cons (l : List ByteArray) : ∃ t, l ++ [⟨#[]⟩] = l.headD ⟨#[]⟩ :: t := by
  cases l with
  | nil => exact ⟨[], rfl⟩
  | cons a l => exact ⟨l ++ [⟨#[]⟩], rfl⟩
set_option maxRecDepth 100000 in
set_option maxHeartbeats 8000000 in
theorem Recover.is (g : Nat) (s : St) (w : World) (hs : StS w g s) (h1 : s.snap.size ≤ 1000000000) (h2 : s.recs.size ≤ 1000000000) :
    Calls Try.prog 19 #[.pointer (some ⟨g, 0, none⟩)] w fun e w' => ∃ v, e = .returned (.tuple #[.string (headS s), v, .int .i64 0]) ∧ StS w' g (recoverS s) ∧
      Kd.R Kd.string 9 w' w.heap.size (fun _ => True) v (readS (repairS s.recs)).1 ∧ w.grownBy w' (some g) := by
  have hg : g < w.heap.size := hs.lt
  have c1 : w.cell? ⟨g, 1, none⟩ = some (.string s.recs) := hs.cell 1
  have hRep := fun w => Repair.below s.recs h2 w
  have hRd := fun w => Read.below s.snap h1 w
  obtain ⟨p, hp⟩ : ∃ p, repairS s.recs = p := ⟨_, rfl⟩
  have hps : p.size ≤ 1000000000 := by rw [← hp, repair_size]; have := good_le s.recs; omega
  have hrv : recoverS s = { s with recs := p, isCut := false, isDown := false } := by unfold recoverS; rw [hp]
  rw [hp] at hRep
  have HRep := Lib.hid hRep; clear hRep
  have HRd := Lib.hid hRd; clear hRd
  have HP := Lib.hid hp
  rw [hp, hrv]
  clear hp hrv
  obtain ⟨t, ht⟩ := head_cons (readS s.snap).1
  have hh : headS s = (readS s.snap).1.headD ⟨#[]⟩ := rfl
  rw [← hh] at ht
  have HT := Lib.hid ht; clear ht
  have hlen : (readS s.snap).1.length ≤ 1000000000 := by
    have := recs_count (readL s.snap.data.toList)
    have h3 := goodL_le s.snap.data.toList
    unfold goodL at h3
    rw [size_data] at h3
    unfold readS
    rw [List.length_map]
    omega
  have HL := Lib.hid hlen; clear hlen
  clear hh
  obtain ⟨H, hH⟩ : ∃ H, headS s = H := ⟨_, rfl⟩
  rw [hH] at HT ⊢
  obtain ⟨L, hL⟩ : ∃ L, (readS s.snap).1 = L := ⟨_, rfl⟩
  rw [hL] at HT HL HRd
  have HHH := Lib.hid hH; clear hH
  have HLL := Lib.hid hL; clear hL
  go_enter Try.func19, Try.ntmps19
  go_wp2_with (first | (go_at_call 26; (with_reducible refine (HRep.out _).mono ?_); rintro e w1 ⟨rfl, hb1⟩; have hs1 : StS w1 g s := Blk.below hs hb1 hg; have f1 : w1.frozen? ⟨g, 1, none⟩ = false := hs1.frozen 1; have f3 : w1.frozen? ⟨g, 3, none⟩ = false := hs1.frozen 3; have f4 : w1.frozen? ⟨g, 4, none⟩ = false := hs1.frozen 4; have d0 : w1.cell? ⟨g, 0, none⟩ = some (.string s.snap) := hs1.cell 0; have d1 : w1.cell? ⟨g, 1, none⟩ = some (.string s.recs) := hs1.cell 1; have d3 : w1.cell? ⟨g, 3, none⟩ = some (.bool s.isCut) := hs1.cell 3; have d4 : w1.cell? ⟨g, 4, none⟩ = some (.bool s.isDown) := hs1.cell 4))
  have hs4 : StS (((w1.setCell ⟨g, 1, none⟩ (.string p)).setCell ⟨g, 3, none⟩ (.bool false)).setCell ⟨g, 4, none⟩ (.bool false)) g { s with recs := p, isCut := false, isDown := false } := ((StS.set (W := w1) hs1 1 _ { s with recs := p } rfl).set 3 _ { s with recs := p, isCut := false } rfl).set 4 _ _ rfl
  have hg4 : w.grownBy (((w1.setCell ⟨g, 1, none⟩ (.string p)).setCell ⟨g, 3, none⟩ (.bool false)).setCell ⟨g, 4, none⟩ (.bool false)) (some g) := grown_trans (grown_trans (grown_trans (grown_of hb1 _) (grown_set _ ⟨g, 1, none⟩ _)) (grown_set _ ⟨g, 3, none⟩ _)) (grown_set _ ⟨g, 4, none⟩ _)
  refine (HRd.out _).mono ?_
  rintro e w5 ⟨v5, rfl, hR5, hb5⟩
  have hs5 := Blk.below hs4 hb5 hs4.lt
  have hg5 := grown_trans hg4 (grown_of hb5 (some g))
  have hR5' := Kd.R_lower hR5 (show w.heap.size ≤ _ from hg4.size)
  have hw5 : w.heap.size ≤ w5.heap.size := hg5.size
  clear hs4 hg4 hb5 hR5 hs1 f1 f3 f4 d0 d1 d3 d4 hb1
  obtain ⟨A5, c5, rfl, hlc5, hC5⟩ := Kd.R_reads hR5'
  have hN5 : A5 = none → c5 = 0 := by
    rintro rfl
    obtain ⟨_, inner, ho, _⟩ := hR5'
    rcases ho with ⟨_, ⟨e, _⟩ | ⟨g', cap, cur, e, _⟩⟩
    · injection e
    · injection e with e1; cases e1
  have CC : ∀ W B, Below w5.heap.size w5 W → W.cell? ⟨B, 0, none⟩ = some (.slice A5 L.length c5) → (∃ B', W.cell? ⟨B, 1, none⟩ = some (.slice (some ⟨B', 0, none⟩) 1 1) ∧ W.cell? ⟨B', 0, none⟩ = some (.string ⟨#[]⟩)) →
      Calls Try.prog 42 #[.slice (some ⟨B, 0, none⟩) 2 2] W fun e W' => ∃ gh cap, e = .returned (.slice (some ⟨gh, 0, none⟩) (t.length + 1) cap) ∧ W'.cell? ⟨gh, 0, none⟩ = some (.string H) ∧ gh < W'.heap.size ∧ Below W.heap.size W W' := by
    rintro W B hb k1 ⟨B', k2, k3⟩
    have hC2 : Kd.C Kd.string W (some ⟨B', 0, none⟩) ([⟨#[]⟩] : List ByteArray).length [⟨#[]⟩] := by
      refine ⟨rfl, by simp, fun _ => ⟨_, rfl, fun j q hj => ⟨[.string q], rfl, rfl, fun i u hu => ?_⟩⟩⟩
      obtain rfl : j = 0 := by have := (List.getElem?_eq_some_iff.1 hj).1; simpa using this
      obtain rfl : i = 0 := by have := (List.getElem?_eq_some_iff.1 hu).1; simpa using this
      simp only [List.getElem?_cons_zero, Option.some.injEq] at hj hu
      subst hj hu
      simpa [Addr.add] using k3
    refine (Concat.two A5 (some ⟨B', 0, none⟩) c5 1 L [⟨#[]⟩] B 2 W (Kd.C_below hC5 hb) hC2 hN5 (fun e => by cases e) k1 k2 (by have := HL.out; omega) (by simp)).mono ?_
    rintro e W' ⟨v, rfl, hR, hbb⟩
    rw [HT.out] at hR
    obtain ⟨gh, cap, rfl, hc, _⟩ := R_head hR
    exact ⟨gh, cap, rfl, hc, World.block_lt_of_cell? W' _ hc, hbb⟩
  have RR : ∀ W, Below w5.heap.size w5 W → Calls Try.prog 22 #[.pointer (some ⟨g, 0, none⟩)] W fun e W' => ∃ v, e = .returned v ∧ Kd.R Kd.string 9 W' w.heap.size (fun _ => True) v (readS p).1 ∧ Below W.heap.size W W' := by
    intro W hb
    refine (Records.is g _ W (Blk.below hs5 hb hs5.lt) hps).mono ?_
    rintro e W' ⟨v, rfl, hR, hbb⟩
    exact ⟨v, rfl, Kd.R_lower hR (by have := hb.size; omega), hbb⟩
  have HCC := Lib.hid CC; clear CC
  have HRR := Lib.hid RR; clear RR
  go_wp2_with (fail)
  have hBb : Below w5.heap.size w5 (((w5.alloc (.cells #[.string ⟨#[]⟩] 9)).alloc (.cells #[.slice A5 L.length c5, .slice (some ⟨w5.heap.size, 0, none⟩) 1 1] 22)).drew) := (((Below.refl _ w5).alloc (Nat.le_refl _) _).alloc (by simp) _).drew
  have hBk := Blk.new (w5.alloc (.cells #[.string ⟨#[]⟩] 9)) 22 #[.slice A5 L.length c5, .slice (some ⟨w5.heap.size, 0, none⟩) 1 1]
  have hBx := (Boxed.new w5 9 (.string ⟨#[]⟩)).alloc (.cells #[.slice A5 L.length c5, .slice (some ⟨w5.heap.size, 0, none⟩) 1 1] 22)
  rw [World.size_alloc] at hBk
  have CC2 := HCC.out _ (w5.heap.size + 1) hBb (hBk.cell 0) ⟨w5.heap.size, hBk.cell 1, hBx.cell⟩
  have HC2 := Lib.hid CC2; clear CC2
  have HBB := Lib.hid hBb; clear hBb
  clear hBk hBx
  go_region_with (first
    | (go_at_call 42; refine HC2.out.mono ?_; rintro e w7 ⟨gh, cap, rfl, hch, hgl, hb7⟩; have hb57 := Lib.hid (below_then HBB.out HBB.out.size hb7))
    | (go_at_call 22; refine (HRR.out _ hb57.out).mono ?_; rintro e w8 ⟨v8, rfl, hR8, hb8⟩; (try (have d8 : w8.cell? ⟨gh, 0, none⟩ = some (.string H) := (hb8.cell (p := ⟨gh, 0, none⟩) (by first | exact hgl | (simp; omega))).trans hch))))
  all_goals
    go_wp2
    have hb58 := below_then hb57.out hb57.out.size hb8
    obtain ⟨A8, c8, rfl, _⟩ := Kd.R_reads hR8
    refine bodyPost_ret (v := .tuple #[.string H, .slice A8 (readS p).1.length c8, .int .i64 0]) (by simp [results, Try.results19, go_sem]) rfl ⟨_, rfl, Blk.below hs5 hb58 hs5.lt, hR8, grown_trans hg5 (grown_of hb58 _)⟩
end Go.Proofs.Ytmafolojopjenaa.G
end
