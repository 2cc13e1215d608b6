/- Records: what length, records, Read of the program tell. -/
import Derived.Test.YtmafolojopjenaaCrcG
import Derived.Test.YtmafolojopjenaaCrcP
import Derived.Test.YtmafolojopjenaaJouM
import Derived.RegionIn
import Derived.IntWalk
import Derived.Test.YtmafolojopjenaaSl
import Derived.Test.YtmafolojopjenaaStep
section
namespace Go.Proofs.Ytmafolojopjenaa.G
open Go.RowKit Go.Shelf Go.Proofs.YtmafolojopjenaaW.PrintWords Go.Proofs.Ytmafolojopjenaa.Cr Go.Proofs.Ytmafolojopjenaa.Jo
attribute [local go_sem] Oper.semAt_some

/-! ### length -/
def numS (s : ByteArray) : Int := (getS (s.extract 1 5)).1
theorem numS_range (s : ByteArray) : 0 ≤ numS s ∧ numS s < 4294967296 := by
  unfold numS getS
  split
  · exact ⟨ofB_ge _, ofB_lt _⟩
  · exact ⟨by decide, by decide⟩
def lenS (s : ByteArray) : Int × Bool :=
  if s.size < 9 then (0, false) else if bt s 0 ≠ 52 then (0, false) else if 4096 < numS s then (0, false) else (5 + numS s + 4, decide (5 + numS s + 4 ≤ (s.size : Int)))
theorem ret_ib {a b : Int × Bool} (h : a = b) : Ending.returned (.tuple #[.int .i64 a.1, .bool a.2]) = .returned (.tuple #[.int .i64 b.1, .bool b.2]) := by rw [h]
set_option maxRecDepth 100000 in
set_option maxHeartbeats 4000000 in
theorem length.below (s : ByteArray) (hs : s.size ≤ 9223372036854775807) (w : World) :
    Calls Try.prog 53 #[.string s] w fun e w' => e = .returned (.tuple #[.int .i64 (lenS s).1, .bool (lenS s).2]) ∧ Below w.heap.size w w' := by
  by_cases h9 : s.size < 9
  · have hl : lenS s = (0, false) := by unfold lenS; rw [if_pos h9]
    rw [hl]
    have d1 : decide ((s.size : Int) < 9) = true := by simp; omega
    have HL := Lib.hid hl; clear hl
    have H9 := Lib.hid h9; clear h9
    go_enter Try.func53, Try.ntmps53
    go_wp2
    go_ret2
    exact ⟨rfl, Below.refl _ _⟩
  · have d1 : decide ((s.size : Int) < 9) = false := by simp; omega
    have h5 : 5 ≤ (s.size : Int) := by omega
    have h5n : 5 ≤ s.size := by omega
    have q0 : 0 < s.size := by omega
    have hx : ∀ h : 0 < s.size, ((s[0]'h).toNat : Int) = bt s 0 := bt_at s 0
    have qi : (0 < (s.size : Int)) = True := eq_true (by omega)
    have Q0 := eq_true q0
    by_cases hm : bt s 0 = 52
    · obtain ⟨n, hn⟩ : ∃ n, numS s = n := ⟨_, rfl⟩
      obtain ⟨n0, n1⟩ := numS_range s
      rw [hn] at n0 n1
      have hg : (getS (s.extract 1 5)).1 = n := hn
      have dm : (bt s 0 != 52) = false := by simpa using hm
      by_cases h4 : 4096 < n
      · have hl : lenS s = (0, false) := by unfold lenS; rw [if_neg h9, if_neg (by simpa using hm), hn, if_pos h4]
        rw [hl]
        have HL := Lib.hid hl; clear hl
        have H9 := Lib.hid h9; clear h9
        have HM := Lib.hid hm; clear hm
        have HN := Lib.hid hn; clear hn
        have HG := Lib.hid hg; clear hg
        clear q0
        have d4 : decide (4096 < n) = true := by simpa using h4
        go_enter Try.func53, Try.ntmps53
        go_wp2_with (go_at_call 61; refine (crc_Get.below _ _).mono ?_; rw [HG.out]; rintro e w1 ⟨rfl, hb⟩)
        go_ret2
        exact ⟨rfl, hb⟩
      · have hl : lenS s = (5 + n + 4, decide (5 + n + 4 ≤ (s.size : Int))) := by unfold lenS; rw [if_neg h9, if_neg (by simpa using hm), hn, if_neg h4]
        rw [hl]
        have HL := Lib.hid hl; clear hl
        have H9 := Lib.hid h9; clear h9
        have HM := Lib.hid hm; clear hm
        have HN := Lib.hid hn; clear hn
        have HG := Lib.hid hg; clear hg
        clear q0
        have d4 : decide (4096 < n) = false := by simpa using h4
        go_enter Try.func53, Try.ntmps53
        go_wp2_with (go_at_call 61; refine (crc_Get.below _ _).mono ?_; rw [HG.out]; rintro e w1 ⟨rfl, hb⟩)
        go_ret2
        exact ⟨rfl, hb⟩
    · have hl : lenS s = (0, false) := by unfold lenS; rw [if_neg h9, if_pos hm]
      rw [hl]
      have dm : (bt s 0 != 52) = true := by simpa using hm
      have HL := Lib.hid hl; clear hl
      have H9 := Lib.hid h9; clear h9
      have HM := Lib.hid hm; clear hm
      clear q0
      go_enter Try.func53, Try.ntmps53
      go_wp2
      go_ret2
      exact ⟨rfl, Below.refl _ _⟩
end Go.Proofs.Ytmafolojopjenaa.G
end
section
namespace Go.Proofs.Ytmafolojopjenaa.G
open Go.RowKit Go.Shelf Go.Proofs.YtmafolojopjenaaW.PrintWords Go.Proofs.Ytmafolojopjenaa.Cr Go.Proofs.Ytmafolojopjenaa.Jo
attribute [local go_sem] Oper.semAt_some

def mk (l : Bs) : ByteArray := ⟨l.toArray⟩
theorem mk_data (s : ByteArray) : mk s.data.toList = s := by unfold mk; simp
theorem data_mk (l : Bs) : (mk l).data.toList = l := by unfold mk; simp
theorem mk_size (l : Bs) : (mk l).size = l.length := by rw [← size_data, data_mk]
theorem bt_data (s : ByteArray) (i : Nat) (h : i < s.size) : bt s (i : Int) = ((s.data.toList[i]'(by rw [size_data]; exact h)).toNat : Int) := by
  have := bt_at s (i : Int) (by simpa using h)
  rw [← this]
  simp only [Int.toNat_natCast]
  rfl
/-- The five bytes that a record begins with. -/
theorem head5 {l : Bs} (h : 9 ≤ l.length) : ∃ m a b c e r, l = m :: a :: b :: c :: e :: r ∧ 4 ≤ r.length := by
  match l, h with
  | m :: a :: b :: c :: e :: r, h => exact ⟨m, a, b, c, e, r, rfl, by simp at h; omega⟩
theorem numS_of {s : ByteArray} {m a b c e : UInt8} {r : Bs} (h : s.data.toList = m :: a :: b :: c :: e :: r) : numS s = ((getB a b c e).toNat : Int) := by
  unfold numS getS
  rw [data_extract, h]
  rfl
/-- A record that bytes begin with: what length, Open tell. -/
theorem lenS_some {t : ByteArray} {d : Bs} (h : oneL t.data.toList = some d) : lenS t = (((d.length + 9 : Nat) : Int), true) ∧ d.length + 9 ≤ t.size ∧ openS (t.extract 0 (d.length + 9)) = (mk (bodyL d), true) := by
  obtain ⟨hd, r, hr⟩ := oneL_some h
  have hl : t.size = d.length + 9 + r.length := by rw [← size_data, ← hr, List.length_append, recL_length]
  obtain ⟨m, a, b, c, e, r', hh, h4⟩ := head5 (l := t.data.toList) (by rw [size_data]; omega)
  have h1 := h
  rw [hh, oneL_cons] at h1
  split at h1
  · rename_i hc
    obtain ⟨rfl, c1, c2, c3⟩ := hc
    obtain rfl := Option.some.inj h1
    obtain ⟨n, hn⟩ : ∃ n, (getB a b c e).toNat = n := ⟨_, rfl⟩
    rw [hn] at c1 c2 hl hr hd ⊢
    have hdl : (r'.take n).length = n := by rw [List.length_take]; omega
    rw [hdl] at hl ⊢
    have hn' := numS_of hh
    rw [hn] at hn'
    refine ⟨?_, by omega, ?_⟩
    · unfold lenS
      rw [if_neg (by omega), if_neg, hn', if_neg (by omega)]
      · congr 1
        · omega
        · simp; omega
      · have := bt_data t 0 (by omega)
        simp only [hh, List.getElem_cons_zero] at this
        rw [show ((0 : Nat) : Int) = 0 from rfl] at this
        rw [this]; decide
    · have e1 : (t.extract 0 (n + 9)).data.toList = recL (r'.take n) := by
        rw [data_extract, List.drop_zero, Nat.sub_zero, ← hr]
        exact List.take_left' (by rw [recL_length, hdl])
      have e2 : (t.extract 0 (n + 9)).size = n + 9 := by rw [← size_data, e1, recL_length, hdl]
      obtain ⟨T, hT⟩ : ∃ T, t.extract 0 (n + 9) = T := ⟨_, rfl⟩
      rw [hT] at e1 e2 ⊢
      have e3 : T.extract 0 (T.size - 4) = mk (bodyL (r'.take n)) := by
        apply ext_data
        rw [data_extract, e1, e2, data_mk, List.drop_zero]
        unfold recL
        exact List.take_left' (by rw [bodyL_length, hdl]; omega)
      have e4 : T.data.toList.drop (T.size - 4) = putL (sumB (T.data.toList.take (T.size - 4))) := by
        rw [e1, e2]
        unfold recL
        rw [List.drop_left' (by rw [bodyL_length, hdl]; omega), List.take_left' (by rw [bodyL_length, hdl]; omega)]
      rw [openS_yes (by omega) e4, e3]
  · cases h1
theorem if_none {α : Type} {p : Prop} [Decidable p] {x : α} (h : (if p then some x else none) = none) : ¬ p := by
  split at h
  · cases h
  · assumption
theorem lenS_none {t : ByteArray} (h : oneL t.data.toList = none) : (lenS t).2 = false ∨ ∃ n : Nat, lenS t = ((n : Int), true) ∧ n ≤ t.size ∧ 9 ≤ n ∧ openS (t.extract 0 n) = (⟨#[]⟩, false) := by
  unfold lenS
  by_cases h9 : t.size < 9
  · rw [if_pos h9]; exact .inl rfl
  · rw [if_neg h9]
    obtain ⟨m, a, b, c, e, r, hh, h4⟩ := head5 (l := t.data.toList) (by rw [size_data]; omega)
    have hl : t.size = r.length + 5 := by rw [← size_data, hh]; rfl
    have h0 := bt_data t 0 (by omega)
    simp only [hh, List.getElem_cons_zero] at h0
    rw [show ((0 : Nat) : Int) = 0 from rfl] at h0
    by_cases hm : bt t 0 ≠ 52
    · rw [if_pos hm]; exact .inl rfl
    · rw [if_neg hm]
      have hm' : m = 52 := by
        apply UInt8.toNat_inj.1
        rw [h0] at hm
        have := Classical.not_not.1 hm
        show m.toNat = 52
        omega
      subst hm'
      rw [numS_of hh]
      obtain ⟨n, hn⟩ : ∃ n, (getB a b c e).toNat = n := ⟨_, rfl⟩
      rw [hn]
      by_cases hb : (4096 : Int) < (n : Int)
      · rw [if_pos hb]; exact .inl rfl
      · rw [if_neg hb]
        by_cases hs : 5 + (n : Int) + 4 ≤ (t.size : Int)
        · refine .inr ⟨n + 9, ?_, by omega, by omega, ?_⟩
          · congr 1
            · omega
            · simpa using hs
          · have hsz : (t.extract 0 (n + 9)).size = n + 9 := by rw [ByteArray.size_extract]; omega
            have e1 : (t.extract 0 (n + 9)).data.toList = 52 :: a :: b :: c :: e :: r.take (n + 4) := by
              rw [data_extract, List.drop_zero, Nat.sub_zero, hh]
              rfl
            refine openS_no fun _ he => ?_
            rw [e1, hsz] at he
            rw [hh, oneL_cons] at h
            replace h := if_none h
            exact absurd he (fun he => h ⟨rfl, by omega, by omega, by
              rw [hn]
              have e3 : List.drop (n + 9 - 4) (52 :: a :: b :: c :: e :: List.take (n + 4) r) = (r.drop n).take 4 := by
                rw [show n + 9 - 4 = n + 5 by omega]
                show List.drop n (List.take (n + 4) r) = _
                rw [List.drop_take, show n + 4 - n = 4 by omega]
              have e4 : List.take (n + 9 - 4) (52 :: a :: b :: c :: e :: List.take (n + 4) r) = 52 :: a :: b :: c :: e :: r.take n := by
                rw [show n + 9 - 4 = n + 5 by omega]
                show 52 :: a :: b :: c :: e :: List.take n (List.take (n + 4) r) = _
                rw [List.take_take, Nat.min_eq_left (by omega)]
              rw [e3, e4] at he
              exact he⟩)
        · exact .inl (by simpa using hs)
/-- Where records end, and their data. -/
def ends : Nat → List Bs → List (Nat × Bs)
  | _, [] => []
  | a, d :: ds => (a + (d.length + 9), d) :: ends (a + (d.length + 9)) ds
theorem ends_snoc (a : Nat) (ds : List Bs) (d : Bs) : ends a (ds ++ [d]) = ends a ds ++ [(a + (recsL ds).length + (d.length + 9), d)] := by
  induction ds generalizing a with
  | nil => rfl
  | cons e ds ih =>
    show (a + (e.length + 9), e) :: ends (a + (e.length + 9)) (ds ++ [d]) = _
    rw [ih, recsL_cons, List.length_append, recL_length]
    show _ = (a + (e.length + 9), e) :: (ends (a + (e.length + 9)) ds ++ _)
    congr 4
    omega
theorem ends_length (a : Nat) (ds : List Bs) : (ends a ds).length = ds.length := by
  induction ds generalizing a with
  | nil => rfl
  | cons e ds ih => simp [ends, ih]
theorem ends_append (a : Nat) (ds es : List Bs) : ends a (ds ++ es) = ends a ds ++ ends (a + (recsL ds).length) es := by
  induction ds generalizing a with
  | nil => rfl
  | cons e ds ih =>
    show (a + (e.length + 9), e) :: ends (a + (e.length + 9)) (ds ++ es) = _
    rw [ih, recsL_cons, List.length_append, recL_length]
    show _ = (a + (e.length + 9), e) :: (ends (a + (e.length + 9)) ds ++ _)
    congr 3
    omega
def recE (x : Nat × Bs) : Array Value := #[.int .i64 (x.1 : Int), .string (mk x.2)]
end Go.Proofs.Ytmafolojopjenaa.G
end
section
namespace Go.Proofs.Ytmafolojopjenaa.G
open Go.RowKit Go.Shelf Go.Proofs.YtmafolojopjenaaW.PrintWords Go.Proofs.Ytmafolojopjenaa.Cr Go.Proofs.Ytmafolojopjenaa.Jo
attribute [local go_sem] Oper.semAt_some

theorem grown_below_ {w w' : World} (h : Below w.heap.size w w') (row : Option Nat) : w.grownBy w' row := ⟨h.os, h.tape, h.output, h.size, fun k hk _ => h.block k hk⟩
theorem extract_size (s : ByteArray) (a b : Nat) (h : b ≤ s.size) : (s.extract a b).size = b - a := by rw [ByteArray.size_extract, Nat.min_eq_left h]
theorem extract_extract (s : ByteArray) (a n : Nat) (h : a + n ≤ s.size) : (s.extract a s.size).extract 0 n = s.extract a (a + n) := by
  apply ext_data
  rw [data_extract, data_extract, data_extract, List.drop_zero, Nat.sub_zero, List.take_take, Nat.add_sub_cancel_left, Nat.min_eq_left (by omega)]
theorem data_tail (s : ByteArray) (a : Nat) : (s.extract a s.size).data.toList = s.data.toList.drop a := by
  rw [data_extract, List.take_of_length_le (by rw [List.length_drop, size_data]; omega)]
theorem body_tail (d : Bs) : (mk (bodyL d)).extract 5 (mk (bodyL d)).size = mk d := by
  apply ext_data
  rw [data_tail, data_mk, data_mk]
  rfl
theorem slice_str (s : ByteArray) (a n : Nat) (h : a + n ≤ s.size) (w : World) : (Instr.slice 9 (.string s) (some (.int .i64 (a : Int))) (some (.int .i64 ((a : Int) + (n : Int)))) none).run Try.prog w = .ok (.string (s.extract a (a + n))) w := by
  have := Go.run_slice_string (P := Try.prog) (w := w) 9 s .i64 .i64 (a : Int) ((a : Int) + (n : Int)) Try.underlying9 (by omega) (by omega) (by omega)
  rw [this]
  congr 2
theorem recs_count (ds : List Jo.Bs) : ds.length ≤ (recsL ds).length := by
  induction ds with
  | nil => exact Nat.zero_le _
  | cons e ds ih => rw [recsL_cons, List.length_append, recL_length, List.length_cons]; omega
set_option maxRecDepth 100000 in
set_option maxHeartbeats 4000000 in
theorem records1_in (n : Nat) (hn : 1 ≤ n) (l Bs : Nat) (s : ByteArray) (hs : s.size ≤ 140737488351232) (J Jx : List (Nat × Jo.Bs) → World → Prop)
    (W : World) (hJ : AbidesFrom W.heap.size J) (hA : Bs < W.heap.size)
    (hY : ∀ pre x W1, J pre W1 → pre.length < s.size → YieldAt Fence.wide (n - 1) Try.prog l (recE x) W1 fun e W' =>
      (e = .returned (.bool true) ∧ J (pre ++ [x]) W' ∧ Keeps (· = Bs) W1 W') ∨ (e = .returned (.bool false) ∧ Jx (pre ++ [x]) W'))
    (hBs : W.cell? ⟨Bs, 0, none⟩ = some (.string s)) (h0 : J [] W) :
    CallsIn Fence.wide n Try.prog 52 #[.func (.yield l) #[] #[], .pointer (some ⟨Bs, 0, none⟩)] W fun e W' => (∃ v, e = .returned v) ∧
      ((∃ ys, ys = ends 0 (readL s.data.toList) ∧ J ys W') ∨ (∃ pre, pre <+: ends 0 (readL s.data.toList) ∧ Jx pre W')) := by
  refine callsIn_of_wp Try.func52 rfl trivial ?_ rfl
  simp only [Try.ntmps52, List.size_toArray, List.length_cons, List.length_nil, Nat.reduceAdd, Nat.reduceSub, Array.replicate_succ, Array.replicate_zero, List.push_toArray, List.append_toArray, List.nil_append, List.cons_append]
  refine wpIn_wide.2 (wp_scope_straight ((wpIn_wide (n := n)).1 ?_))
  gi_wp2
  refine wpIn_label ?_
  gi_wp2
  gi_loopw [3] (fun i wr => ∃ ds : List Jo.Bs, (∀ d ∈ ds, d.length ≤ 4096) ∧ recsL ds <+: s.data.toList ∧ i = .int .i64 ((recsL ds).length : Int) ∧ J (ends 0 ds) wr ∧ Keeps (· = Bs) W wr) (fun i _ => s.size - (intOf i).toNat)
  case atStart => exact ⟨[], by simp, List.nil_prefix, rfl, h0, Keeps.refl _ _⟩
  case round =>
    obtain ⟨ds, hds, ⟨r, hr⟩, rfl, hJs, hnx⟩ := hrel
    obtain ⟨a, ha⟩ : ∃ a, (recsL ds).length = a := ⟨_, rfl⟩
    have hsz : a + r.length = s.size := by rw [← ha, ← List.length_append, hr, size_data]
    rw [ha]
    have hdr : s.data.toList.drop a = r := by rw [← hr, ← ha, List.drop_left]
    have hc : wr.cell? ⟨Bs, 0, none⟩ = some (.string s) := (hnx.cell (p := ⟨Bs, 0, none⟩) rfl).trans hBs
    have hBw : Bs < wr.heap.size := hnx.lt rfl hA
    have htd : (s.extract a s.size).data.toList = r := by rw [data_tail, hdr]
    have hts : (s.extract a s.size).size = s.size - a := extract_size _ _ _ (Nat.le_refl _)
    have has : a ≤ s.size := by omega
    have HTD := Lib.hid htd; clear htd
    have HTS := Lib.hid hts; clear hts
    have HR := Lib.hid hr; clear hr
    have HDR := Lib.hid hdr; clear hdr
    have HA := Lib.hid ha; clear ha
    have HDS := Lib.hid hds; clear hds
    cases hone : oneL r with
    | none =>
      have hread : readL s.data.toList = ds := readL_eq ⟨HDS.out, r, HR.out.symm, hone⟩
      have HREAD := Lib.hid hread; clear hread
      have hln := lenS_none (t := s.extract a s.size) (by rw [HTD.out]; exact hone)
      have HO := Lib.hid hone; clear hone
      obtain ⟨T, hT⟩ : ∃ T, s.extract a s.size = T := ⟨_, rfl⟩
      have HTS2 : T.size ≤ 140737488351232 := by rw [← hT, HTS.out]; omega
      rw [hT] at hln
      have hT' := hT
      rcases hln with h2 | ⟨n', hl', hn1, hn9, hop⟩
      · gi_wp2_with (first | (refine ⟨trivial, ?_⟩; gi_at_call 53; refine (callsIn_wide.2 (length.below T (by omega) _)).mono ?_; rintro e w1 ⟨rfl, hb1⟩))
        have hJ1 := hJ _ _ _ none hJs (grown_below_ hb1 none) (fun r e => by cases e)
        rw [Exit.noGoto_normal]
        go_end0
        exact ⟨⟨_, rfl⟩, .inl ⟨_, rfl, by rw [HREAD.out]; exact hJ1⟩⟩
      · have h1 : (lenS T).1 = (n' : Int) := by rw [hl']
        have h2 : (lenS T).2 = true := by rw [hl']
        have HL := Lib.hid hl'; clear hl'
        have hos : T.extract 0 n' = s.extract a (a + n') := by rw [← hT]; exact extract_extract _ _ _ (by rw [← hT, HTS.out] at hn1; omega)
        rw [hos] at hop
        have hanl : a + n' ≤ s.size := by rw [← hT, HTS.out] at hn1; omega
        have hexs : (s.extract a (a + n')).size ≤ 140737488351232 := by rw [extract_size _ _ _ hanl]; omega
        have HOS := Lib.hid hos; clear hos
        have ho2 : (openS (s.extract a (a + n'))).2 = false := by rw [hop]
        have hsl := slice_str s a n' hanl
        have HOP := Lib.hid hop; clear hop
        have HEX := Lib.hid hexs; clear hexs
        gi_wp2_with (first | (refine ⟨trivial, ?_⟩; gi_at_call 53; refine (callsIn_wide.2 (length.below T (by omega) _)).mono ?_; rintro e w1 ⟨rfl, hb1⟩; have hc1 := (hb1.cell (p := ⟨Bs, 0, none⟩) hBw).trans hc) | (refine ⟨trivial, ?_⟩; gi_at_call 54; refine (callsIn_wide.2 (crc_Open.below _ HEX.out _)).mono ?_; rintro e w2 ⟨rfl, hb2⟩))
        have hJ1 := hJ _ _ _ none (hJ _ _ _ none hJs (grown_below_ hb1 none) (fun r e => by cases e)) (grown_below_ hb2 none) (fun r e => by cases e)
        rw [Exit.noGoto_normal]
        go_end0
        exact ⟨⟨_, rfl⟩, .inl ⟨_, rfl, by rw [HREAD.out]; exact hJ1⟩⟩
    | some d =>
      obtain ⟨hl', hn1, hop⟩ := lenS_some (t := s.extract a s.size) (d := d) (by rw [HTD.out]; exact hone)
      obtain ⟨hd, r2, hr2⟩ := oneL_some hone
      have hread : readL s.data.toList = (ds ++ [d]) ++ readL r2 := by
        rw [← HR.out, ← hr2, ← List.append_assoc, ← recsL_one, ← recsL_append]
        exact reads_join (by
          intro x hx
          rcases List.mem_append.1 hx with hx | hx
          · exact HDS.out x hx
          · rw [List.mem_singleton] at hx; rw [hx]; exact hd) r2
      have hpre : recsL (ds ++ [d]) <+: s.data.toList := ⟨r2, by rw [recsL_append, recsL_one, List.append_assoc, hr2, HR.out]⟩
      have hds' : ∀ x ∈ ds ++ [d], x.length ≤ 4096 := by
        intro x hx
        rcases List.mem_append.1 hx with hx | hx
        · exact HDS.out x hx
        · rw [List.mem_singleton] at hx; rw [hx]; exact hd
      obtain ⟨n', hn'⟩ : ∃ n', d.length + 9 = n' := ⟨_, rfl⟩
      have hlen' : (recsL (ds ++ [d])).length = a + n' := by rw [recsL_append, recsL_one, List.length_append, recL_length, HA.out, hn']
      have hens : ends 0 (ds ++ [d]) = ends 0 ds ++ [(a + n', d)] := by rw [ends_snoc, Nat.zero_add, HA.out, hn']
      rw [hn'] at hl' hn1 hop
      have hdn : ds.length ≤ a := by
        rw [← HA.out]; exact recs_count ds
      have hn9 : 9 ≤ n' := by omega
      obtain ⟨T, hT⟩ : ∃ T, s.extract a s.size = T := ⟨_, rfl⟩
      have HTS2 : T.size ≤ 140737488351232 := by rw [← hT, HTS.out]; omega
      have hanl : a + n' ≤ s.size := by rw [HTS.out] at hn1; omega
      have hos : T.extract 0 n' = s.extract a (a + n') := by rw [← hT]; exact extract_extract _ _ _ hanl
      have hexs : (s.extract a (a + n')).size ≤ 140737488351232 := by rw [extract_size _ _ _ hanl]; omega
      rw [hT] at hl' hop
      rw [hos] at hop
      have h1 : (lenS T).1 = (n' : Int) := by rw [hl']
      have h2 : (lenS T).2 = true := by rw [hl']
      have ho1 : (openS (s.extract a (a + n'))).1 = mk (bodyL d) := by rw [hop]
      have ho2 : (openS (s.extract a (a + n'))).2 = true := by rw [hop]
      have hbt := body_tail d
      have hbs : 5 ≤ (mk (bodyL d)).size := by rw [mk_size, bodyL_length]; omega
      have HL := Lib.hid hl'; clear hl'
      have HOS := Lib.hid hos; clear hos
      have hsl := slice_str s a n' hanl
      have HOP := Lib.hid hop; clear hop
      have HEX := Lib.hid hexs; clear hexs
      have HON := Lib.hid hone; clear hone
      have HR2 := Lib.hid hr2; clear hr2
      have HREAD := Lib.hid hread; clear hread
      have HPRE := Lib.hid hpre; clear hpre
      have HDS' := Lib.hid hds'; clear hds'
      have HN' := Lib.hid hn'; clear hn'
      have HLEN' := Lib.hid hlen'; clear hlen'
      have HENS := Lib.hid hens; clear hens
      gi_wp2_with (first | (refine ⟨trivial, ?_⟩; gi_at_call 53; refine (callsIn_wide.2 (length.below T (by omega) _)).mono ?_; rintro e w1 ⟨rfl, hb1⟩; have hc1 := (hb1.cell (p := ⟨Bs, 0, none⟩) hBw).trans hc; have hBw1 : Bs < w1.heap.size := Nat.lt_of_lt_of_le hBw hb1.size) | (refine ⟨trivial, ?_⟩; gi_at_call 54; refine (callsIn_wide.2 (crc_Open.below _ HEX.out _)).mono ?_; rintro e w2 ⟨rfl, hb2⟩; have hc2 := (hb2.cell (p := ⟨Bs, 0, none⟩) hBw1).trans hc1))
      have hJ1 := hJ _ _ _ none (hJ _ _ _ none hJs (grown_below_ hb1 none) (fun r e => by cases e)) (grown_below_ hb2 none) (fun r e => by cases e)
      obtain ⟨fn, tmps, assign, body, hy, hR⟩ := hY _ (a + n', d) w2 hJ1 (by rw [ends_length]; omega)
      unfold recE at hy
      simp only [Int.natCast_add] at hy
      rw [hy]
      gi_wp2
      refine hR.mono ?_
      rintro e W3 (⟨rfl, hJ3, hk3⟩ | ⟨rfl, hJx3⟩)
      · gi_wp2
        go_roundw
        case rel => exact ⟨ds ++ [d], HDS'.out, HPRE.out, by rw [HLEN'.out]; go_num, by rw [HENS.out]; exact hJ3, ((hnx.below hb1 (by rintro k rfl; exact hBw)).below hb2 (by rintro k rfl; exact hBw1)).trans hk3⟩
        case measure => simp [intOf]; omega
      · gi_wp2
        rw [Exit.noGoto_ret]
        refine bodyPost_ret (results_none rfl _ _ _) rfl ?_
        exact ⟨⟨_, rfl⟩, .inr ⟨_, ⟨ends (a + n') (readL r2), by rw [HREAD.out, ends_append, HLEN'.out, HENS.out, Nat.zero_add]⟩, hJx3⟩⟩
theorem records_in (n : Nat) (s : ByteArray) (w : World) :
    CallsIn Fence.wide n Try.prog 43 #[.string s] w fun e w' => e = .returned (.func (.func 52) #[] #[.pointer (some ⟨w.heap.size, 0, none⟩)]) ∧ w' = w.alloc (.cells #[.string s] 9) := by
  refine callsIn_of_wp Try.func43 rfl trivial ?_ rfl
  simp only [Try.ntmps43, List.size_toArray, List.length_cons, List.length_nil, Nat.reduceAdd, Nat.reduceSub, Array.replicate_succ, Array.replicate_zero, List.push_toArray, List.append_toArray, List.nil_append, List.cons_append]
  gi_wp2
  go_ret
  exact ⟨rfl, rfl⟩
theorem records_stops (n : Nat) (hn : 1 ≤ n) (Bs : Nat) (s : ByteArray) (hs : s.size ≤ 140737488351232) (w : World) (hA : Bs < w.heap.size) (hBs : w.cell? ⟨Bs, 0, none⟩ = some (.string s)) :
    SeqStopsK Fence.wide n Try.prog 52 #[.pointer (some ⟨Bs, 0, none⟩)] recE (Keeps (· = Bs)) (fun ys => ys = ends 0 (readL s.data.toList)) (fun pre => pre <+: ends 0 (readL s.data.toList)) s.size w := fun l J Jx W hW hJ _ hY h0 =>
  records1_in n hn l Bs s hs J Jx W hJ (Nat.lt_of_lt_of_le hA hW.size) hY ((hW.cell (p := ⟨Bs, 0, none⟩) hA).trans hBs) h0
end Go.Proofs.Ytmafolojopjenaa.G
end
section
namespace Go.Proofs.Ytmafolojopjenaa.G
open Go.RowKit Go.Shelf Go.Proofs.YtmafolojopjenaaW.PrintWords Go.Proofs.Ytmafolojopjenaa.Cr Go.Proofs.Ytmafolojopjenaa.Jo
attribute [local go_sem] Oper.semAt_some

theorem info_str : (Try.prog.info? 9).map (fun i => (i.zero, i.size, i.bytes)) = some (some (.string ⟨#[]⟩), 1, 16) := by kernel_rfl
theorem und_strs : Try.prog.underlying 22 = some (.slice 9) := by kernel_rfl
/-- The data of what came, and where the last one ended. -/
def datas (pre : List (Nat × Jo.Bs)) : List ByteArray := pre.map fun x => mk x.2
def lastEnd (pre : List (Nat × Jo.Bs)) : Int := match pre.getLast? with | some x => (x.1 : Int) | none => 0
theorem lastEnd_snoc (pre : List (Nat × Jo.Bs)) (x : Nat × Jo.Bs) : lastEnd (pre ++ [x]) = (x.1 : Int) := by simp [lastEnd]
theorem datas_snoc (pre : List (Nat × Jo.Bs)) (x : Nat × Jo.Bs) : datas (pre ++ [x]) = datas pre ++ [mk x.2] := by simp [datas]
/-- What Read has beside. -/
structure ReadI (w0 w : World) (pre : List (Nat × Jo.Bs)) (W : World) : Prop where
  ex : ∃ v, Boxed W w0.heap.size 22 v ∧ Kd.R Kd.string 9 W w0.heap.size (fun _ => True) v (datas pre)
  good : Boxed W (w0.heap.size + 1) 3 (.int .i64 (lastEnd pre))
  below : Below w0.heap.size w0 W
  size : w.heap.size ≤ W.heap.size
theorem box_kept {X Y : World} {B : Nat} {t : TypeId} {v : Value} {row : Option Nat} (h : Boxed X B t v) (hg : X.grownBy Y row) (hr : ∀ r, row = some r → ∃ o : Obj, X.heap[r]? = some o ∧ o.isCells = false) : Boxed Y B t v := by
  refine (hg.block B h.lt ?_).trans h
  rintro rfl
  obtain ⟨o, ho, hc⟩ := hr B rfl
  rw [show X.heap[B]? = _ from h] at ho
  cases ho
  cases hc
theorem R_kept_cells {α : Type} {d : Kd α} {e : Nat} {X Y : World} {base : Nat} {ok : Nat → Prop} {v : Value} {xs : List α} {row : Option Nat} (h : d.R e X base ok v xs) (hg : X.grownBy Y row) (hr : ∀ r, row = some r → ∃ o : Obj, X.heap[r]? = some o ∧ o.isCells = false) : d.R e Y base ok v xs := by
  refine Kd.R_mono (Kd.R_grown (Kd.R_bound h) hg ?_) (fun k hk => hk.1)
  rintro k ⟨_, _, _, q, _, cells, hc⟩ rfl
  obtain ⟨o, ho, hoc⟩ := hr k rfl
  rw [hc] at ho
  cases ho
  cases hoc
theorem ReadI.own (w0 w : World) (B : Nat) (hB : w0.heap.size ≤ B) : OwnFrom B (ReadI w0 w) := by
  rintro s X Y row ⟨⟨v, h1, h2⟩, h3, h4, h5⟩ hg hr
  have hr' : ∀ r, row = some r → ∃ o : Obj, X.heap[r]? = some o ∧ o.isCells = false := fun r e => (hr r e).2
  refine ⟨⟨v, box_kept h1 hg hr', R_kept_cells h2 hg hr'⟩, box_kept h3 hg hr', h4.grown hg h4.size (fun k e => ?_), Nat.le_trans h5 hg.size⟩
  exact Nat.le_trans hB (hr k e).1
theorem drop_datas (l : Jo.Bs) (a : Nat) : datas (ends a (readL l)) = (readL l).map mk := by
  have : ∀ (ds : List Jo.Bs) (a : Nat), datas (ends a ds) = ds.map mk := by
    intro ds
    induction ds with
    | nil => intro a; rfl
    | cons d ds ih => intro a; show mk d :: datas (ends _ ds) = _; rw [ih]; rfl
  exact this _ _
theorem lastEnd_ends (ds : List Jo.Bs) : lastEnd (ends 0 ds) = ((recsL ds).length : Int) := by
  rcases List.eq_nil_or_concat ds with rfl | ⟨es, d, rfl⟩
  · rfl
  · rw [List.concat_eq_append, ends_snoc, lastEnd_snoc, recsL_append, recsL_one, List.length_append, recL_length, Nat.zero_add]
def readS (s : ByteArray) : List ByteArray × Int := ((readL s.data.toList).map mk, (goodL s.data.toList : Int))
theorem ret_vi {v : Value} {a b : Int} (h : a = b) : Ending.returned (.tuple #[v, .int .i64 a]) = .returned (.tuple #[v, .int .i64 b]) := by rw [h]
set_option maxRecDepth 100000 in
set_option maxHeartbeats 4000000 in
theorem Read.below (s : ByteArray) (hs : s.size ≤ 1000000000) (w : World) :
    Calls Try.prog 25 #[.string s] w fun e w' => ∃ v0_ : Value, e = .returned (.tuple #[v0_, .int .i64 (readS s).2]) ∧ Kd.R Kd.string 9 w' w.heap.size (fun _ => True) v0_ (readS s).1 ∧ Below w.heap.size w w' := by
  refine (callsIn_wide (n := 6)).1 ?_
  refine callsIn_of_wp_marks Try.func25 rfl trivial ?_ rfl
  simp only [Try.ntmps25, List.size_toArray, List.length_cons, List.length_nil, Nat.reduceAdd, Nat.reduceSub, Array.replicate_succ, Array.replicate_zero, List.push_toArray, List.append_toArray, List.nil_append, List.cons_append]
  refine wpIn_wide.2 ?_
  go_wp2_with (go_at_call 43; refine ((callsIn_wide (n := 6)).1 (records_in 6 _ _)).mono ?_; rintro e w' ⟨rfl, rfl⟩)
  have hz := Boxed.new ((w.alloc (.cells #[.slice none 0 0] 22)).alloc (.cells #[.int .i64 0] 3)) 9 (.string s)
  have hx0 := ((Boxed.new w 22 (.slice none 0 0)).alloc (.cells #[.int .i64 0] 3)).alloc (.cells #[.string s] 9)
  have hx1 := (Boxed.new (w.alloc (.cells #[.slice none 0 0] 22)) 3 (.int .i64 0)).alloc (.cells #[.string s] 9)
  have hB0 : Below w.heap.size w (((w.alloc (.cells #[.slice none 0 0] 22)).alloc (.cells #[.int .i64 0] 3)).alloc (.cells #[.string s] 9)) := (((Below.refl _ w).alloc (Nat.le_refl _) _).alloc (by simp) _).alloc (by simp; omega) _
  simp only [World.size_alloc] at hz hx1
  obtain ⟨W0, hW0⟩ : ∃ W0, ((w.alloc (.cells #[.slice none 0 0] 22)).alloc (.cells #[.int .i64 0] 3)).alloc (.cells #[.string s] 9) = W0 := ⟨_, rfl⟩
  have hs0 : W0.heap.size = w.heap.size + 3 := by rw [← hW0]; simp
  rw [hW0] at hz hx0 hx1 hB0 ⊢
  clear hW0
  refine wpIn_wide.1 (?_ : Code.wpIn Fence.wide 6 Try.prog _ _ _ _)
  refine wpIn_rangeFunc_ownF rfl (by omega) (gf := 52) (lb := #[.pointer (some ⟨w.heap.size + 1 + 1, 0, none⟩)]) rfl trivial (enters_of Try.func52 (by kernel_rfl) rfl)
    (records_stops (6 - 1) (by omega) (w.heap.size + 1 + 1) s (by omega) W0 (by omega) hz.cell) Keeps.trans (keeps_b (by rintro k rfl; omega)) (Below.refl _ _) (fun _ => rfl)
    (fun pre W => ReadI w W0 pre W)
    (fun _ _ _ => False)
    (ReadI.own w W0 _ (by omega))
    (fun _ _ _ _ _ hs _ _ => hs)
    ⟨⟨_, hx0, Kd.R_nil _ _ _ _ _⟩, hx1, hB0, Nat.le_refl _⟩
    (fun x => { tmps := #[Value.string s, undef, Value.slice none 0 0, Value.int IntKind.i64 0, Value.pointer (some { block := w.heap.size, off := 0 }), Value.pointer (some { block := w.heap.size + 1, off := 0 }), .int .i64 (x.1 : Int), .string (mk x.2), Value.string s, Value.func (Fn.func 52) #[] #[Value.pointer (some { block := w.heap.size + 1 + 1, off := 0 })], .int .i64 (x.1 : Int), .string (mk x.2), undef, undef, undef, undef, undef, undef, undef, undef, undef, undef, undef, undef], defers := [] }) ?assign ?body ?done ?stop
  case assign =>
    intro l x W K hK
    unfold recE
    gi_wp2
    exact hK
  case body =>
    rintro l pre x W ⟨⟨v, hv, hR⟩, hg, hB, hsW⟩ hlen
    obtain ⟨A, c, rfl, hlc, hC⟩ := Kd.R_reads hR
    have hc0 := hv.cell
    have hf0 := hv.frozen
    have hc1 := hg.cell
    have hf1 := hg.frozen
    have hl9 : (datas pre).length ≤ 1000000000 := by unfold datas; rw [List.length_map]; omega
    obtain ⟨v2, W2, hr, hR2, hb2⟩ := append_full_R (P := Try.prog) (d := Kd.string) (W := W.alloc (.cells #[.string (mk x.2)] 9)) 22 22 9 _ 16 und_strs info_str rfl (fun _ _ _ _ _ h => h) (Kd.C_alloc hC _) (C_one (d := Kd.string) (x := mk x.2) (cs := [.string (mk x.2)]) rfl 9) (c := 1) (by simp) (by simp; omega) (by omega)
    obtain ⟨A2, c2, rfl⟩ := Kd.R_slice hR2
    obtain ⟨n2, hn2⟩ : ∃ n2, (datas pre ++ [mk x.2]).length = n2 := ⟨_, rfl⟩
    rw [hn2] at hr hR2
    have hr' : ∀ ty, (Builtin.append_ #[22, 22] ty #[.slice A (datas pre).length (datas pre).length, .slice (some ⟨W.heap.size, 0, none⟩) 1 1]).run Try.prog (W.alloc (.cells #[.string (mk x.2)] 9)) = .ok (.slice A2 n2 c2) W2 := fun ty => hr
    have k0 : Boxed W2 w.heap.size 22 _ := boxed_callee (hv.alloc (.cells #[.string (mk x.2)] 9)) hb2
    have k1 : Boxed W2 (w.heap.size + 1) 3 _ := boxed_callee (hg.alloc (.cells #[.string (mk x.2)] 9)) hb2
    have hk0 := k0.cell
    have hkf0 := k0.frozen
    have hk1 := k1.cell
    have hkf1 := k1.frozen
    have hB2 : Below w.heap.size w W2 := (hB.alloc hB.size _).trans (hb2.mono (by have := hB.size; simp; omega))
    have hs2 : W.heap.size + 1 ≤ W2.heap.size := by have := hb2.size; simpa using this
    gi_wp2_with (gi_at_builtin; refine wpListIn_append_run rfl rfl rfl rfl hr' ?_)
    have hbW : Below W.heap.size W W2 := ((Below.refl _ W).alloc (Nat.le_refl _) _).trans (hb2.mono (by simp))
    refine ⟨((others_below hbW).trans (KeepsOthers.setCell _ ⟨w.heap.size, 0, none⟩ _)).trans (KeepsOthers.setCell _ ⟨w.heap.size + 1, 0, none⟩ _), (((Keeps.refl _ W).below hbW (by rintro k rfl; omega)).setCell (p := ⟨w.heap.size, 0, none⟩) (by show ¬ w.heap.size = _; omega) _).setCell (p := ⟨w.heap.size + 1, 0, none⟩) (by show ¬ w.heap.size + 1 = _; omega) _, ⟨⟨_, (k0.set _).other (by omega) _, ?_⟩, ?_, ?_, ?_⟩⟩
    · rw [datas_snoc]
      have hR3 := Kd.R_lower hR2 (show w.heap.size ≤ (W.alloc (.cells #[.string (mk x.2)] 9)).heap.size by have := hB.size; simp; omega)
      exact Kd.R_set (Kd.R_set hR3 k0 (by decide) 0 _) (((k1.other (B' := w.heap.size) (by omega) _))) (by decide) 0 _
    · rw [lastEnd_snoc]
      exact (k1.other (B' := w.heap.size) (by omega) _).set _
    · exact (hB2.setCell (p := ⟨w.heap.size, 0, none⟩) (Nat.le_refl _) _).setCell (p := ⟨w.heap.size + 1, 0, none⟩) (by show _ ≤ w.heap.size + 1; omega) _
    · simp [World.setCell]; omega
  case done =>
    rintro D ys W hD rfl ⟨⟨v, hv, hR⟩, hg, hB, hsW⟩ hK
    have hc0 := hv.cell
    have hc1 := hg.cell
    go_wp2
    go_quiet (fail)
    go_wp2
    refine ⟨by simp, .inl ⟨_, _, rfl, run_takeDeferred hK, ?_⟩⟩
    refine ⟨_, results_tmp2 rfl _ _ _, ?_⟩
    have hKq : (W.drewN nq).heap[D]? = some (.deferred (some [])) := hK
    refine ⟨v, ret_vi (by rw [lastEnd_ends]; rfl), ?_, ?_⟩
    · have h1 := R_kept_cells (Kd.R_drewN hR nq) (grownBy_putObj' (W.drewN nq) D (.deferred none)) (fun r e => by cases e; exact ⟨_, hKq, rfl⟩)
      rw [drop_datas] at h1
      exact h1
    · exact hB.trans ((below_drewN (Below.refl _ W) nq).trans (belowK_b (w := W0) (by omega) (W.drewN nq) D _ _ hD hKq rfl rfl))
  case stop =>
    rintro D c pre W _ _ h _
    exact h.elim
end Go.Proofs.Ytmafolojopjenaa.G
end
