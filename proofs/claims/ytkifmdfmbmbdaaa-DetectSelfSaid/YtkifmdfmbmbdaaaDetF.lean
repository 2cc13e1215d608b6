/- Who seems to be down: Tick. -/
import Derived.Test.YtkifmdfmbmbdaaaDetE
import Derived.StillTailTactics
namespace Go.Proofs.Ytkifmdfmbmbdaaa.G
open Go.RowKit Go.Shelf Go.Proofs.YtkifmdfmbmbdaaaW.PrintWords Go.Proofs.YtkifmdfmbmbdaaaW.PrintMore
set_option linter.unusedVariables false
set_option linter.unusedSimpArgs false
attribute [local go_sem] Oper.semAt_some

def susAt (ps : List Peer) (i : Nat) : List Peer := ps.set i { ps.getD i zP with sus := true }
def markL (ps : List Peer) (l : List Nat) : List Peer := l.foldl susAt ps
theorem markL_length (ps : List Peer) (l : List Nat) : (markL ps l).length = ps.length := by
  induction l generalizing ps with
  | nil => rfl
  | cons i l ih => show (markL (susAt ps i) l).length = _; rw [ih]; simp [susAt]
theorem markL_snoc (ps : List Peer) (l : List Nat) (i : Nat) : markL ps (l ++ [i]) = susAt (markL ps l) i := by simp [markL]
def tickF (s : Det) (t : Int) : Det × List Nat × Int :=
  if t < s.now ∨ 1152921504606846976 < t then (s, [], 70) else ({ s with now := t, ps := markL s.ps (whoL (lateP s.self t) s.ps s.ps.length) }, whoL (lateP s.self t) s.ps s.ps.length, 0)
/-- No node was heard later than now. -/
def Heard (s : Det) : Prop := ∀ p ∈ s.ps, 0 ≤ p.last ∧ p.last ≤ s.now
theorem who_lt (pr : Nat → Peer → Bool) (ps : List Peer) (k : Nat) : ∀ i ∈ whoL pr ps k, i < k := by
  intro i hi
  unfold whoL at hi
  have := (List.mem_filter.1 hi).1
  simpa using this
def RdT (n q g M k : Nat) : Prop := k = q + 1 ∨ k = q + 1 + 1 ∨ k = g ∨ k = M ∨ k = n ∨ k = n + 1
set_option maxRecDepth 100000 in
set_option maxHeartbeats 8000000 in
theorem Tick.is (g M : Nat) (s : Det) (t : Int) (w : World) (h : DetS w g M s) (hh : Heard s) (hl : s.ps.length ≤ 1000) :
    Calls Try.prog 9 #[.pointer (some ⟨g, 0, none⟩), .int .u64 t] w fun e w' => ∃ v, e = .returned (.tuple #[v, .int .i64 (tickF s t).2.2]) ∧ RowI w' w.heap.size v (ints (tickF s t).2.1) ∧ DetS w' g M (tickF s t).1 ∧ Grow2 g M w w' := by
  have hlt := h.lt
  have y0 := (Boxed.new w 24 (.pointer (some ⟨g, 0, none⟩))).alloc (.cells #[.int .u64 t] 22)
  have y1 := Boxed.new (w.alloc (.cells #[.pointer (some ⟨g, 0, none⟩)] 24)) 22 (.int .u64 t)
  have yB : Below w.heap.size w ((w.alloc (.cells #[.pointer (some ⟨g, 0, none⟩)] 24)).alloc (.cells #[.int .u64 t] 22)) := by go_grown
  simp only [World.size_alloc] at y1
  have hsz1 : ((w.alloc (.cells #[.pointer (some ⟨g, 0, none⟩)] 24)).alloc (.cells #[.int .u64 t] 22)).heap.size = w.heap.size + 2 := by simp
  obtain ⟨W1, hW1⟩ : ∃ W1, (w.alloc (.cells #[.pointer (some ⟨g, 0, none⟩)] 24)).alloc (.cells #[.int .u64 t] 22) = W1 := ⟨_, rfl⟩
  rw [hW1] at y0 y1 yB hsz1
  have hS1 := h.below yB
  have hmv := moves.is g M s t W1 hS1
  by_cases hbad : t < s.now ∨ 1152921504606846976 < t
  · have hf : tickF s t = (s, [], 70) := if_pos hbad
    have hm : movesF s t = (s, 70) := if_pos hbad
    rw [hf]
    rw [hm] at hmv
    have HF := Lib.hid hf; clear hf
    have HM := Lib.hid hm; clear hm
    have HMV := Lib.hid hmv; clear hmv
    have HBAD := Lib.hid hbad; clear hbad
    have HW1 := Lib.hid hW1; clear hW1
    have HSZ := Lib.hid hsz1; clear hsz1
    go_enter Try.func9, Try.ntmps9
    go_wp2_with (fail)
    rw [HW1.out]
    refine HMV.out.mono ?_
    rintro e w2 ⟨rfl, hs2, hg2⟩
    go_wp2
    go_ret2
    exact ⟨_, rfl, RowI.nil _ _, hs2, (Grow2.of yB).trans hg2⟩
  · have hf : tickF s t = ({ s with now := t, ps := markL s.ps (whoL (lateP s.self t) s.ps s.ps.length) }, whoL (lateP s.self t) s.ps s.ps.length, 0) := if_neg hbad
    have hm : movesF s t = ({ s with now := t }, 0) := if_neg hbad
    have hT : t ≤ 1152921504606846976 ∧ ∀ p ∈ s.ps, 0 ≤ p.last ∧ p.last ≤ t := ⟨by omega, fun p hp => by have := hh p hp; omega⟩
    rw [hf]
    rw [hm] at hmv
    have hwl := who_lt (lateP s.self t) s.ps s.ps.length
    have hyl := who_len (lateP s.self t) s.ps s.ps.length
    obtain ⟨L, hL⟩ : ∃ L, whoL (lateP s.self t) s.ps s.ps.length = L := ⟨_, rfl⟩
    rw [hL] at hwl hyl ⊢
    have HL := Lib.hid hL; clear hL
    have HF := Lib.hid hf; clear hf
    have HM := Lib.hid hm; clear hm
    have HMV := Lib.hid hmv; clear hmv
    have HBAD := Lib.hid hbad; clear hbad
    have HW1 := Lib.hid hW1; clear hW1
    have HSZ := Lib.hid hsz1; clear hsz1
    refine (callsIn_wide (n := 6)).1 ?_
    refine callsIn_of_wp_marks Try.func9 rfl trivial ?_ rfl
    simp only [Try.ntmps9, List.size_toArray, List.length_cons, List.length_nil, Nat.reduceAdd, Nat.reduceSub, Array.replicate_succ, Array.replicate_zero, List.push_toArray, List.append_toArray, List.nil_append, List.cons_append]
    refine wpIn_wide.2 ?_
    go_wp2_with (fail)
    rw [HW1.out]
    refine HMV.out.mono ?_
    rintro e w2 ⟨rfl, hs2, hg2⟩
    have hlt1 := HSZ.out
    have a0 : Boxed w2 w.heap.size 24 (.pointer (some ⟨g, 0, none⟩)) := hg2.blk y0 (by omega) (by omega)
    have a1 : Boxed w2 (w.heap.size + 1) 22 (.int .u64 t) := hg2.blk y1 (by omega) (by omega)
    have c0 := a0.cell
    have c1 := a1.cell
    have hw2 := hg2.size
    have hlt2 : w.heap.size < w2.heap.size := by omega
    have hlt3 : w.heap.size + 1 < w2.heap.size := by omega
    go_wp2_with (go_at_call 18; refine ((callsIn_wide (n := 6)).1 (those_in 6 _ _ _ _)).mono ?_; rintro e w3 ⟨rfl, rfl⟩)
    have zr := ((Boxed.new w2 25 (.slice none 0 0)).alloc (.cells #[.pointer (some ⟨g, 0, none⟩)] 24)).alloc (.cells #[.func (.func 17) #[] #[.pointer (some ⟨w.heap.size, 0, none⟩), .pointer (some ⟨w.heap.size + 1, 0, none⟩)]] 51)
    have zf := (Boxed.new (w2.alloc (.cells #[.slice none 0 0] 25)) 24 (.pointer (some ⟨g, 0, none⟩))).alloc (.cells #[.func (.func 17) #[] #[.pointer (some ⟨w.heap.size, 0, none⟩), .pointer (some ⟨w.heap.size + 1, 0, none⟩)]] 51)
    have zn := Boxed.new ((w2.alloc (.cells #[.slice none 0 0] 25)).alloc (.cells #[.pointer (some ⟨g, 0, none⟩)] 24)) 51 (.func (.func 17) #[] #[.pointer (some ⟨w.heap.size, 0, none⟩), .pointer (some ⟨w.heap.size + 1, 0, none⟩)])
    have zB : Below w2.heap.size w2 (((w2.alloc (.cells #[.slice none 0 0] 25)).alloc (.cells #[.pointer (some ⟨g, 0, none⟩)] 24)).alloc (.cells #[.func (.func 17) #[] #[.pointer (some ⟨w.heap.size, 0, none⟩), .pointer (some ⟨w.heap.size + 1, 0, none⟩)]] 51)) := by go_grown
    simp only [World.size_alloc] at zr zf zn
    obtain ⟨W0, hW0⟩ : ∃ W0, ((w2.alloc (.cells #[.slice none 0 0] 25)).alloc (.cells #[.pointer (some ⟨g, 0, none⟩)] 24)).alloc (.cells #[.func (.func 17) #[] #[.pointer (some ⟨w.heap.size, 0, none⟩), .pointer (some ⟨w.heap.size + 1, 0, none⟩)]] 51) = W0 := ⟨_, rfl⟩
    have hs0 : W0.heap.size = w2.heap.size + 3 := by rw [← hW0]; simp
    rw [hW0] at zr zf zn zB ⊢
    have hS0 := hs2.below zB
    have e0 : Boxed W0 w.heap.size 24 (.pointer (some ⟨g, 0, none⟩)) := (zB.block _ a0.lt).trans a0
    have e1 : Boxed W0 (w.heap.size + 1) 22 (.int .u64 t) := (zB.block _ a1.lt).trans a1
    have hg2l : g < w2.heap.size ∧ M < w2.heap.size := hs2.lt
    have hrd : ∀ k, RdT w.heap.size w2.heap.size g M k → k < W0.heap.size := by rintro k (rfl | rfl | rfl | rfl | rfl | rfl) <;> omega
    have hro : ∀ k, RdT w.heap.size w2.heap.size g M k → k ≠ w2.heap.size ∧ ∃ o, W0.heap[k]? = some o ∧ ∀ cs, o ≠ .cells cs 3 (0, 0) := by
      rintro k (rfl | rfl | rfl | rfl | rfl | rfl)
      · exact ⟨by omega, _, zf, fun cs e => by cases e⟩
      · exact ⟨by omega, _, zn, fun cs e => by cases e⟩
      · exact ⟨by omega, _, hS0.1, fun cs e => by cases e⟩
      · obtain ⟨_, m, ⟨es, c, hb, _⟩, _⟩ := hS0
        exact ⟨by omega, _, hb, fun cs e => by cases e⟩
      · exact ⟨by omega, _, e0, fun cs e => by cases e⟩
      · exact ⟨by omega, _, e1, fun cs e => by cases e⟩
    have hbase : w2.heap.size ≤ W0.heap.size := by omega
    have hI0 : ColS w2.heap.size w2.heap.size (RdT w.heap.size w2.heap.size g M) w2 W0 [] W0 := ⟨⟨_, zr, RowI.nil _ _⟩, zB, Keeps.refl _ _, Nat.le_refl _⟩
    clear hW0
    refine wpIn_wide.1 (?_ : Code.wpIn Fence.wide 6 Try.prog _ _ _ _)
    refine wpIn_rangeFunc_ownG (F := Fence.wide) rfl (by omega) (gf := 22) (lb := #[.pointer (some ⟨w2.heap.size + 1, 0, none⟩), .pointer (some ⟨w2.heap.size + 1 + 1, 0, none⟩)]) rfl trivial (enters_of Try.func22 (by kernel_rfl) rfl)
      (thoseT_stops (6 - 1) (by omega) (w2.heap.size + 1) (w2.heap.size + 1 + 1) g M w.heap.size (w.heap.size + 1) t { s with now := t } (RdT w.heap.size w2.heap.size g M) (.inl rfl) (.inr (.inl rfl)) (.inr (.inr (.inl rfl))) (.inr (.inr (.inr (.inl rfl)))) (.inr (.inr (.inr (.inr (.inl rfl))))) (.inr (.inr (.inr (.inr (.inr rfl))))) (by show s.ps.length ≤ _; omega) W0 hrd zf.cell zn.cell hS0 e0.cell e1.cell hT) Keeps.trans (keeps_b hrd) (Below.refl _ _) (fun _ => rfl)
      (ColS w2.heap.size w2.heap.size (RdT w.heap.size w2.heap.size g M) w2 W0)
      (fun _ _ _ => False)
      (ColS.own hbase hrd) (fun _ _ _ _ _ hs _ _ => hs) hI0
      (fun x => { tmps := #[.pointer (some ⟨g, 0, none⟩), .int .u64 t, .pointer (some ⟨w.heap.size, 0, none⟩), .pointer (some ⟨w.heap.size + 1, 0, none⟩), .slice none 0 0, .int .i64 0, .int .i64 0, .func (.func 17) #[] #[.pointer (some ⟨w.heap.size, 0, none⟩), .pointer (some ⟨w.heap.size + 1, 0, none⟩)], .pointer (some ⟨w2.heap.size, 0, none⟩), .int .i64 x, undef, undef, undef, .pointer (some ⟨g, 0, none⟩), .bool false, .pointer (some ⟨g, 0, none⟩), .int .u64 t, .int .i64 0, .int .i64 0, .bool false, undef, .func (.func 17) #[] #[.pointer (some ⟨w.heap.size, 0, none⟩), .pointer (some ⟨w.heap.size + 1, 0, none⟩)], .pointer (some ⟨g, 0, none⟩), .func (.func 17) #[] #[.pointer (some ⟨w.heap.size, 0, none⟩), .pointer (some ⟨w.heap.size + 1, 0, none⟩)], .func (.func 22) #[] #[.pointer (some ⟨w2.heap.size + 1, 0, none⟩), .pointer (some ⟨w2.heap.size + 1 + 1, 0, none⟩)], .int .i64 x, undef, undef, undef, undef, undef, undef, undef, undef, undef, undef, undef, undef, undef, undef, undef, undef, undef, undef, undef, undef, undef, undef, undef, undef, undef], defers := [] }) ?assign ?body ?done ?stop
    case assign =>
      intro l x W K hK
      gi_wp2
      exact hK
    case body =>
      rintro l pre x W hI hlen
      have hI' := hI
      obtain ⟨⟨v, hb, hR⟩, hB, hK, hs⟩ := hI
      obtain ⟨v', W1, hrun, b1, b2, b3, b4, b5, b6⟩ := coll hb hR (by simp [ints]; show pre.length ≤ _; have : pre.length < s.ps.length := hlen; omega) (by omega) (Nat.le_refl _) (x : Int)
      obtain ⟨A3, c3, rfl, _, _⟩ := Kd.R_reads b3
      obtain ⟨N, hN⟩ : ∃ N, (ints pre ++ [(x : Int)]).length = N := ⟨_, rfl⟩
      rw [hN] at hrun b2 b3 b4 b5 b6
      clear hN
      have HRUN := Lib.hid hrun; clear hrun
      obtain ⟨hI2, hK2⟩ := hI'.add hbase b2 b3 b5 hro b6
      have c0 := hb.cell
      have c1 := b1.cell
      have f1 := b1.frozen
      have B2 := Lib.hid b3; clear b3
      have B6 := Lib.hid b6; clear b6
      gi_wp2_with (gi_at_builtin; refine wpListIn_append_run rfl rfl rfl rfl HRUN.out ?_)
      exact ⟨b4.from _, hK2, hI2⟩
    case done =>
      rintro D ys W hD hys ⟨⟨v, hb, hR⟩, hB, hK', hs⟩ hK
      obtain rfl : ys = L := (show ys = whoL (lateP s.self t) s.ps s.ps.length from hys).trans HL.out
      clear hys
      have hSW : DetS W g M { s with now := t } := by
        obtain ⟨q1, m, q2, q3⟩ := hS0
        exact ⟨(hK' g (.inr (.inr (.inl rfl)))).trans q1, m, q2.of_eq (hK' M (.inr (.inr (.inr (.inl rfl))))), q3⟩
      have hdW : Boxed W w.heap.size 24 (.pointer (some ⟨g, 0, none⟩)) := (hK' _ (.inr (.inr (.inr (.inr (.inl rfl)))))).trans e0
      obtain ⟨A3, c3, rfl, hlc3, hC3⟩ := Kd.R_reads hR
      have hil : (ints ys).length = ys.length := by simp [ints]
      rw [hil] at hb hR hlc3 hC3
      have HIL := Lib.hid hil; clear hil
      have cb := hb.cell
      go_wp2_with (fail)
      go_loopw [32] (fun i wr => ∃ j : Nat, j ≤ ys.length ∧ i = .int .i64 j ∧ DetS wr g M { s with now := t, ps := markL s.ps (ys.take j) } ∧ Boxed wr w.heap.size 24 (.pointer (some ⟨g, 0, none⟩)) ∧ Boxed wr w2.heap.size 25 (.slice A3 ys.length c3) ∧ RowI wr w2.heap.size (.slice A3 ys.length c3) (ints ys) ∧ wr.heap[D]? = some (.deferred (some [])) ∧ Grow2 g M w2 wr) (fun i _ => ys.length - (intOf i).toNat)
      case atStart => exact ⟨0, Nat.zero_le _, rfl, hSW, hdW, hb, hR, hK, Grow2.of hB⟩
      case round =>
        obtain ⟨j, hj, rfl, hS, hd, ho, hR, hK, hG⟩ := hrel
        by_cases hlt : j < ys.length
        · obtain ⟨A4, c4, hv4, _, hC4⟩ := Kd.R_reads hR
          rw [HIL.out] at hv4 hC4
          cases hv4
          obtain ⟨ad, hAd, x0⟩ := Kd.at_int hC4 (j : Int) (by omega) (by omega)
          rw [show rd (ints ys) (j : Int) = (ys[j] : Int) by unfold rd ints; simp [List.getD_eq_getElem?_getD, hlt]] at x0
          simp only [Int.toNat_natCast] at x0
          subst hAd
          have hk0 := hwl _ (List.getElem_mem hlt)
          have htk : ys.take (j + 1) = ys.take j ++ [ys[j]] := List.take_succ_eq_append_getElem hlt
          obtain ⟨k0, hk0e⟩ : ∃ k0, ys[j] = k0 := ⟨_, rfl⟩
          rw [hk0e] at x0 hk0 htk
          have HKE := Lib.hid hk0e; clear hk0e
          have HTK := Lib.hid htk; clear htk
          have hml : k0 < (markL s.ps (ys.take j)).length := by rw [markL_length]; exact hk0
          have lk := hS.look (k0 : Int) false
          rw [atP_nat _ k0 hml] at lk
          simp only [Option.getD_some, Bool.false_eq_true, if_false, peerV] at lk
          obtain ⟨p, hp⟩ : ∃ p, (markL s.ps (ys.take j))[k0] = p := ⟨_, rfl⟩
          rw [show ({ s with now := t, ps := markL s.ps (ys.take j) } : Det).ps[k0] = p from hp] at lk
          have HP := Lib.hid hp; clear hp
          have cd := hd.cell
          have lw := hd.lt
          have lg := hS.lt
          have cg : wr.cell? ⟨g, 0, none⟩ = some (.map (some M)) := hS.1.cell 0
          obtain ⟨W6, hW6⟩ : ∃ W6, wr.alloc (.cells #[.int .u64 p.last, .int .u64 p.tmo, .bool true] 47) = W6 := ⟨_, rfl⟩
          have hb6 : Below wr.heap.size wr W6 := by rw [← hW6]; exact (Below.refl _ wr).alloc (Nat.le_refl _) _
          have hX6 : Blk W6 wr.heap.size 47 #[.int .u64 p.last, .int .u64 p.tmo, .bool true] := by rw [← hW6]; exact Blk.new _ _ _
          have hsz6 : W6.heap.size = wr.heap.size + 1 := by rw [← hW6]; simp
          have hS6 := hS.below hb6
          have hd6 : Boxed W6 w.heap.size 24 (.pointer (some ⟨g, 0, none⟩)) := (hb6.block _ hd.lt).trans hd
          have ho6 : Boxed W6 w2.heap.size 25 (.slice (some ad) ys.length c3) := (hb6.block _ ho.lt).trans ho
          have hR6 := hR.below hb6
          have hDl := (Array.getElem?_eq_some_iff.1 hK).1
          have hK6 : W6.heap[D]? = some (.deferred (some [])) := (hb6.block _ hDl).trans hK
          have hG6 := hG.trans (Grow2.of hb6)
          obtain ⟨W', hrun, hS', hg', hsz'⟩ := DetS.update (W := W6.drew) hS6 k0 hml ⟨p.last, p.tmo, true⟩
          have hMD : ∀ k, k ≠ M → k < W6.heap.size → W'.heap[k]? = W6.heap[k]? := fun k h1 h2 => hg'.block k h2 (fun e => h1 (Option.some.inj e))
          have hMD' := Lib.hid hMD; clear hMD
          have hRg : ∀ r, (some M : Option Nat) = some r → ∃ o : Obj, W6.drew.heap[r]? = some o ∧ o.isCells = false := by
            rintro r e
            cases e
            obtain ⟨_, m, ⟨es, c, hb, _⟩, _⟩ := hS6
            exact ⟨_, hb, rfl⟩
          have hR7 := RowI.abides (X := W6.drew) hR6 hg' hRg
          clear hRg
          have cd6 := hd6.cell
          have cg6 : W6.cell? ⟨g, 0, none⟩ = some (.map (some M)) := hS6.1.cell 0
          have z0 : W6.cell? ⟨wr.heap.size, 0, none⟩ = some (.int .u64 p.last) := hX6.cell 0
          have z1 : W6.cell? ⟨wr.heap.size, 1, none⟩ = some (.int .u64 p.tmo) := hX6.cell 1
          have z2 : W6.cell? ⟨wr.heap.size, 2, none⟩ = some (.bool true) := hX6.cell 2
          have HW6 := Lib.hid hW6; clear hW6
          have HSZ6 := Lib.hid hsz6; clear hsz6
          go_wp2_with (fail)
          rw [HW6.out]
          go_still_tail 6, (by kernel_rfl)
          change wpList _ _ _ _ _ W6.drew
          go_wp2
          refine ⟨⟨j + 1, by omega, by go_num, ?_, ?_, ?_, hR7, ?_, (hG6.drew).trans (Grow2.two hg')⟩, by simp [intOf]; omega⟩
          · rw [HTK.out, markL_snoc]
            have e : susAt (markL s.ps (ys.take j)) k0 = (markL s.ps (ys.take j)).set k0 ⟨p.last, p.tmo, true⟩ := by
              unfold susAt
              rw [List.getD_eq_getElem?_getD, List.getElem?_eq_getElem (by rw [markL_length]; exact hk0), Option.getD_some, HP.out]
            rw [e]
            exact hS'
          · exact (hMD'.out _ (by omega) (by have := hd6.lt; omega)).trans hd6
          · exact (hMD'.out _ (by omega) (by have := ho6.lt; omega)).trans ho6
          · exact (hMD'.out _ (by omega) (by have := HSZ6.out; omega)).trans hK6
        · obtain rfl : j = ys.length := by omega
          rw [List.take_length] at hS
          have co := ho.cell
          go_wp2
          refine ⟨by simp, .inl ⟨_, _, rfl, run_takeDeferred hK, ?_⟩⟩
          refine ⟨_, results_tmp2 rfl _ _ _, ?_⟩
          have hDl : W0.heap.size ≤ D := hD
          refine ⟨_, rfl, Kd.R_lower (hR.abides (grownBy_putObj' _ D _) (fun r e => by cases e; exact ⟨_, hK, rfl⟩)) (by omega), ?_, ?_⟩
          · obtain ⟨q1, m, q2, q3⟩ := hS
            exact ⟨(World.putObj_heap_other (by omega)).trans q1, m, q2.of_eq (World.putObj_heap_other (by omega)), q3⟩
          · have h0 := ((Grow2.of yB).trans hg2).trans hG
            exact ⟨h0.os, h0.tape, h0.output, by simpa using h0.size, fun k hk h1 h2 => (World.putObj_heap_other (by omega)).trans (h0.block k hk h1 h2)⟩
    case stop =>
      rintro D c pre W _ _ h _
      exact h.elim
end Go.Proofs.Ytkifmdfmbmbdaaa.G
