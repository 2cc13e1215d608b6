/- What a node keeps: what the functions tell, plainly; the laws' shown. -/
import Derived.Test.YtmafolojopjenaaStoE
import Derived.Test.YtmafolojopjenaaJouS
namespace Go.Proofs.Ytmafolojopjenaa.G
open Go.RowKit Go.Shelf Go.Proofs.YtmafolojopjenaaW.PrintWords Go.Proofs.Ytmafolojopjenaa.Cr Go.Proofs.Ytmafolojopjenaa.Jo Go.Proofs.Ytmafolojopjenaa.P
set_option linter.unusedVariables false
set_option linter.unusedSimpArgs false
attribute [local go_sem] Oper.semAt_some

theorem mk_app (a b : Jo.Bs) : mk a ++ mk b = mk (a ++ b) := Pure.mk_append a b
theorem recS_in (s : St) (d : Jo.Bs) (x : Int) (h1 : s.isDown = false) (h2 : d.length ≤ 4096) (h3 : x + ((d.length + 9 : Nat) : Int) ≤ s.cap) : recS s (mk d) x = (mk (recL d), 0) := by
  unfold recS
  rw [h1, if_neg (by decide), mk_size, if_neg (by omega), data_mk]
/-- A write that is not cut. -/
theorem write_ok (s : St) (d : Jo.Bs) (l : Jo.Bs) (hl : s.recs = mk l) (h1 : s.isDown = false) (hc : s.isCut = false) (h2 : d.length ≤ 4096) (h3 : (s.snap.size : Int) + ((l.length + (d.length + 9) : Nat) : Int) ≤ s.cap) :
    writeS s (mk d) = ({ s with recs := mk (l ++ recL d) }, 0) := by
  unfold writeS
  rw [recS_in s d (sumS_ s) h1 h2 (by unfold sumS_; rw [hl, mk_size]; omega), if_pos rfl]
  unfold crashS keptS
  simp only [hc]
  rw [if_neg (by simp), hl, if_neg (by simp), mk_app]
/-- A write that is cut. -/
theorem write_cut (s : St) (d : Jo.Bs) (l : Jo.Bs) (k : Nat) (hl : s.recs = mk l) (h1 : s.isDown = false) (hc : s.isCut = true) (hk : s.cut = k) (h2 : d.length ≤ 4096) (h3 : (s.snap.size : Int) + ((l.length + (d.length + 9) : Nat) : Int) ≤ s.cap) :
    writeS s (mk d) = ({ s with recs := mk (l ++ (recL d).take k), isCut := false, isDown := true }, 31) := by
  unfold writeS
  rw [recS_in s d (sumS_ s) h1 h2 (by unfold sumS_; rw [hl, mk_size]; omega), if_pos rfl]
  unfold crashS keptS
  simp only [hc, hk, if_true]
  have hkk : s.recs ++ (if True ∧ (k : Int) < ((mk (recL d)).size : Int) then (mk (recL d)).extract 0 ((k : Int)).toNat else mk (recL d)) = mk (l ++ (recL d).take k) := by
    rw [hl, mk_size]
    by_cases h : (k : Int) < ((recL d).length : Int)
    · rw [if_pos ⟨trivial, h⟩, Int.toNat_natCast, Pure.extract_mk, List.drop_zero, Nat.sub_zero, mk_app]
    · rw [if_neg (fun z => h z.2), List.take_of_length_le (by omega), mk_app]
  rw [hkk]
theorem write_down (s : St) (d : ByteArray) (h : s.isDown = true) : writeS s d = (s, 31) := by
  unfold writeS
  have : recS s d (sumS_ s) = (⟨#[]⟩, 31) := by unfold recS; rw [h]; rfl
  rw [this, if_neg (by decide)]
theorem snap_down (s : St) (d : ByteArray) (h : s.isDown = true) : snapS s d = (s, 31) := by
  unfold snapS
  have : recS s d 0 = (⟨#[]⟩, 31) := by unfold recS; rw [h]; rfl
  rw [this, if_neg (by decide)]
theorem snap_ok (s : St) (d : Jo.Bs) (h1 : s.isDown = false) (hc : s.isCut = false) (h2 : d.length ≤ 4096) (h3 : ((d.length + 9 : Nat) : Int) ≤ s.cap) :
    snapS s (mk d) = ({ s with snap := mk (recL d), recs := mk [] }, 0) := by
  unfold snapS
  rw [recS_in s d 0 h1 h2 (by omega), if_pos rfl]
  unfold crashS wholeB
  simp only [hc]
  rfl
theorem repair_mk' (l : Jo.Bs) : repairS (mk l) = mk (recsL (readL l)) := by
  unfold repairS
  rw [Pure.extract_mk, data_mk, List.drop_zero, Nat.sub_zero, take_good]
theorem read_mk' (l : Jo.Bs) : (readS (mk l)).1 = (readL l).map mk := by unfold readS; rw [data_mk]
/-! ### Same -/
theorem Same.yes (A0 A1 : Option Addr) (c0 c1 n0 n1 : Nat) (l : List ByteArray) (w : World) (h0 : Kd.C Kd.string w A0 l.length l) (hc0 : l.length ≤ c0) (h1 : Kd.C Kd.string w A1 l.length l) (hc1 : l.length ≤ c1) (hl : l.length < 1000000000000) (e0 : l.length = n0) (e1 : l.length = n1) :
    Calls Try.prog 20 #[.slice A0 n0 c0, .slice A1 n1 c1] w fun e w' => e = .returned (.bool true) ∧ ∃ n, w.drewN n = w' := by
  subst e0 e1
  refine (rostrumref03_Same.calls (l.length + 1) A0 c0 l A1 c1 l true w h0 hc0 h1 hc1 (Pure.same_self l hl _ (by omega))).mono ?_
  rintro e w' ⟨rfl, n, hn⟩
  exact ⟨rfl, n, hn.symm⟩
theorem rowOne (W : World) (a : ByteArray) : Kd.C Kd.string (W.alloc (.cells #[.string a] 9)) (some ⟨W.heap.size, 0, none⟩) 1 [a] := rowS W [a] (by simp)
theorem StS.below {W W' : World} {g : Nat} {s : St} (h : StS W g s) (hb : Below W.heap.size W W') : StS W' g s := Blk.callee h hb
/-! ### shown -/
theorem ok_small {s : St} (h1 : (s.snap.size : Int) + (s.recs.size : Int) ≤ s.cap) (h2 : s.cap ≤ 1048576) (h3 : s.isCut = true → 0 ≤ s.cut) : StOk s := ⟨h1, h2, h3⟩
set_option maxRecDepth 100000 in
set_option maxHeartbeats 4000000 in
theorem shown4.is (w : World) : Calls Try.prog 14 #[] w fun e w' => e = .returned (.bool true) ∧ Below w.heap.size w w' := by
  have q1 : writeS (newS 100) (mk [97]) = ({ newS 100 with recs := mk ([] ++ recL [97]) }, 0) := write_ok (newS 100) [97] [] rfl rfl rfl (by decide) (by decide)
  have q2 : cutS { newS 100 with recs := mk ([] ++ recL [97]) } 3 = ({ newS 100 with recs := mk ([] ++ recL [97]), cut := 3, isCut := true }, 0) := rfl
  have hlen : ([] ++ recL [97] : Jo.Bs).length = 10 := by rw [List.nil_append, recL_length]; rfl
  have q3 : writeS { newS 100 with recs := mk ([] ++ recL [97]), cut := 3, isCut := true } (mk [98]) = ({ newS 100 with recs := mk (([] ++ recL [97]) ++ (recL [98]).take 3), cut := 3, isCut := false, isDown := true }, 31) :=
    write_cut { newS 100 with recs := mk ([] ++ recL [97]), cut := 3, isCut := true } [98] ([] ++ recL [97]) 3 rfl rfl rfl rfl (by decide) (by rw [hlen]; decide)
  have hlen2 : (([] ++ recL [97]) ++ (recL [98]).take 3 : Jo.Bs).length = 13 := by rw [List.length_append, hlen, List.length_take, recL_length]; rfl
  have q4 : writeS { newS 100 with recs := mk (([] ++ recL [97]) ++ (recL [98]).take 3), cut := 3, isCut := false, isDown := true } (mk [99]) = ({ newS 100 with recs := mk (([] ++ recL [97]) ++ (recL [98]).take 3), cut := 3, isCut := false, isDown := true }, 31) := write_down _ _ rfl
  have hread : readL (([] ++ recL [97]) ++ (recL [98]).take 3) = [[97]] := by
    have := reads_recs (ds := [[97]]) (by simp) ((recL [98]).take 3) (oneL_part (by decide) (by decide))
    rwa [recsL_one] at this
  have q5 : (readS (repairS (mk (([] ++ recL [97]) ++ (recL [98]).take 3)))).1 = [mk [97]] := by
    rw [repair_mk', hread, read_mk', reads_all (by simp)]; rfl
  have z1 : (mk ([] ++ recL [97])).size = 10 := by rw [mk_size, hlen]
  have z2 : (mk (([] ++ recL [97]) ++ (recL [98]).take 3)).size = 13 := by rw [mk_size, hlen2]
  have Q1 := Lib.hid q1; clear q1
  have Q2 := Lib.hid q2; clear q2
  have Q3 := Lib.hid q3; clear q3
  have Q4 := Lib.hid q4; clear q4
  have Q5 := Lib.hid q5; clear q5
  have Z1 := Lib.hid z1; clear z1
  have Z2 := Lib.hid z2; clear z2
  clear hlen hlen2 hread
  go_enter Try.func14, Try.ntmps14
  go_wp2_with (fail)
  refine (New.ok 100 _ (by decide) (by decide)).mono ?_
  rintro e w1 ⟨rfl, hs1, hb1⟩
  go_wp2_with (fail)
  refine (Write.is _ _ (mk [97]) _ hs1 (ok_small (by decide) (by decide) (fun h => by cases h)) (by decide)).mono ?_
  rw [Q1.out]
  rintro e w2 ⟨rfl, hs2, hg2⟩
  go_wp2_with (fail)
  refine (Cut.is _ _ 3 _ hs2).mono ?_
  rw [Q2.out]
  rintro e w3 ⟨rfl, hs3, hg3⟩
  go_wp2_with (fail)
  refine (Write.is _ _ (mk [98]) _ hs3 (ok_small (by show ((0 : Nat) : Int) + ((mk ([] ++ recL [97])).size : Int) ≤ 100; rw [Z1.out]; decide) (by decide) (fun _ => by decide)) (by decide)).mono ?_
  rw [Q3.out]
  rintro e w4 ⟨rfl, hs4, hg4⟩
  go_wp2_with (fail)
  refine (Write.is _ _ (mk [99]) _ hs4 (ok_small (by show ((0 : Nat) : Int) + ((mk (([] ++ recL [97]) ++ (recL [98]).take 3)).size : Int) ≤ 100; rw [Z2.out]; decide) (by decide) (fun h => by cases h)) (by decide)).mono ?_
  rw [Q4.out]
  rintro e w5 ⟨rfl, hs5, hg5⟩
  go_wp2_with (fail)
  refine (Recover.is _ _ _ hs5 (by decide) (by show (mk (([] ++ recL [97]) ++ (recL [98]).take 3)).size ≤ _; rw [Z2.out]; decide)).mono ?_
  rintro e w6 ⟨v6, rfl, hs6, hR6, hg6⟩
  rw [show (readS (repairS ({ newS 100 with recs := mk (([] ++ recL [97]) ++ (recL [98]).take 3), cut := 3, isCut := false, isDown := true } : St).recs)).1 = [mk [97]] from Q5.out] at hR6
  obtain ⟨A6, c6, rfl, hlc6, hC6⟩ := Kd.R_reads hR6
  go_wp2_with (fail)
  refine (New.no 63 _ (.inl (by decide))).mono ?_
  rintro e w7 ⟨rfl, rfl⟩
  go_wp2_with (fail)
  refine (Same.yes A6 (some ⟨w6.heap.size, 0, none⟩) c6 1 1 1 [mk [97]] _ (Kd.C_alloc hC6 _) hlc6 (rowOne w6 (mk [97])) (by decide) (by decide) rfl rfl).mono ?_
  rintro e w8 ⟨rfl, n8, rfl⟩
  go_wp2
  go_ret
  have hb6 : Below w.heap.size w w6 := by
    have hg := grown_trans (grown_trans (grown_trans (grown_trans hg2 hg3) hg4) hg5) hg6
    exact below_grown' hb1 hb1.size hg (fun b e => by cases e; exact Nat.le_refl _)
  exact ⟨rfl, below_drewN (hb6.alloc hb6.size _) _⟩
end Go.Proofs.Ytmafolojopjenaa.G
