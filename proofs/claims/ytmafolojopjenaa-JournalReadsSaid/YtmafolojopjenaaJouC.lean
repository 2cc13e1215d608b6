/- Records: the walk through those of bytes. -/
import Derived.Test.YtmafolojopjenaaJouB
import Derived.RegionIn
import Derived.IntWalk
namespace Go.Proofs.Ytmafolojopjenaa.G
open Go.RowKit Go.Shelf Go.Proofs.YtmafolojopjenaaW.PrintWords Go.Proofs.Ytmafolojopjenaa.Cr Go.Proofs.Ytmafolojopjenaa.Jo
attribute [local go_sem] Oper.semAt_some

theorem grown_below_ {w w' : World} (h : Below w.heap.size w w') (row : Option Nat) : w.grownBy w' row := ⟨h.os, h.tape, h.output, h.size, fun k hk _ => h.block k hk⟩
theorem extract_size (s : ByteArray) (a b : Nat) (h : b ≤ s.size) : (s.extract a b).size = b - a := by rw [ByteArray.size_extract, Nat.min_eq_left h]
theorem extract_extract (s : ByteArray) (a n : Nat) (h : a + n ≤ s.size) : (s.extract a s.size).extract 0 n = s.extract a (a + n) := by
  apply ext_data
  rw [data_extract, data_extract, data_extract, List.drop_zero, Nat.sub_zero, List.take_take, Nat.add_sub_cancel_left, Nat.min_eq_left (by omega)]
theorem data_tail (s : ByteArray) (a : Nat) : (s.extract a s.size).data.toList = s.data.toList.drop a := by
  rw [data_extract, List.take_of_length_le (by rw [List.length_drop, size_data]; omega)]
theorem body_tail (d : Bs) : (mk (bodyL d)).extract 5 (mk (bodyL d)).size = mk d := by
  apply ext_data
  rw [data_tail, data_mk, data_mk]
  rfl
theorem slice_str (s : ByteArray) (a n : Nat) (h : a + n ≤ s.size) (w : World) : (Instr.slice 9 (.string s) (some (.int .i64 (a : Int))) (some (.int .i64 ((a : Int) + (n : Int)))) none).run Try.prog w = .ok (.string (s.extract a (a + n))) w := by
  have := Go.run_slice_string (P := Try.prog) (w := w) 9 s .i64 .i64 (a : Int) ((a : Int) + (n : Int)) Try.underlying9 (by omega) (by omega) (by omega)
  rw [this]
  congr 2
theorem recs_count (ds : List Jo.Bs) : ds.length ≤ (recsL ds).length := by
  induction ds with
  | nil => exact Nat.zero_le _
  | cons e ds ih => rw [recsL_cons, List.length_append, recL_length, List.length_cons]; omega
set_option maxRecDepth 100000 in
set_option maxHeartbeats 4000000 in
theorem records1_in (n : Nat) (hn : 1 ≤ n) (l Bs : Nat) (s : ByteArray) (hs : s.size ≤ 140737488351232) (J Jx : List (Nat × Jo.Bs) → World → Prop)
    (W : World) (hJ : AbidesFrom W.heap.size J) (hA : Bs < W.heap.size)
    (hY : ∀ pre x W1, J pre W1 → pre.length < s.size → YieldAt Fence.wide (n - 1) Try.prog l (recE x) W1 fun e W' =>
      (e = .returned (.bool true) ∧ J (pre ++ [x]) W' ∧ Keeps (· = Bs) W1 W') ∨ (e = .returned (.bool false) ∧ Jx (pre ++ [x]) W'))
    (hBs : W.cell? ⟨Bs, 0, none⟩ = some (.string s)) (h0 : J [] W) :
    CallsIn Fence.wide n Try.prog 52 #[.func (.yield l) #[] #[], .pointer (some ⟨Bs, 0, none⟩)] W fun e W' => (∃ v, e = .returned v) ∧
      ((∃ ys, ys = ends 0 (readL s.data.toList) ∧ J ys W') ∨ (∃ pre, pre <+: ends 0 (readL s.data.toList) ∧ Jx pre W')) := by
  refine callsIn_of_wp Try.func52 rfl trivial ?_ rfl
  simp only [Try.ntmps52, List.size_toArray, List.length_cons, List.length_nil, Nat.reduceAdd, Nat.reduceSub, Array.replicate_succ, Array.replicate_zero, List.push_toArray, List.append_toArray, List.nil_append, List.cons_append]
  refine wpIn_wide.2 (wp_scope_straight ((wpIn_wide (n := n)).1 ?_))
  gi_wp2
  refine wpIn_label ?_
  gi_wp2
  gi_loopw [3] (fun i wr => ∃ ds : List Jo.Bs, (∀ d ∈ ds, d.length ≤ 4096) ∧ recsL ds <+: s.data.toList ∧ i = .int .i64 ((recsL ds).length : Int) ∧ J (ends 0 ds) wr ∧ Keeps (· = Bs) W wr) (fun i _ => s.size - (intOf i).toNat)
  case atStart => exact ⟨[], by simp, List.nil_prefix, rfl, h0, Keeps.refl _ _⟩
  case round =>
    obtain ⟨ds, hds, ⟨r, hr⟩, rfl, hJs, hnx⟩ := hrel
    obtain ⟨a, ha⟩ : ∃ a, (recsL ds).length = a := ⟨_, rfl⟩
    have hsz : a + r.length = s.size := by rw [← ha, ← List.length_append, hr, size_data]
    rw [ha]
    have hdr : s.data.toList.drop a = r := by rw [← hr, ← ha, List.drop_left]
    have hc : wr.cell? ⟨Bs, 0, none⟩ = some (.string s) := (hnx.cell (p := ⟨Bs, 0, none⟩) rfl).trans hBs
    have hBw : Bs < wr.heap.size := hnx.lt rfl hA
    have htd : (s.extract a s.size).data.toList = r := by rw [data_tail, hdr]
    have hts : (s.extract a s.size).size = s.size - a := extract_size _ _ _ (Nat.le_refl _)
    have has : a ≤ s.size := by omega
    have HTD := Lib.hid htd; clear htd
    have HTS := Lib.hid hts; clear hts
    have HR := Lib.hid hr; clear hr
    have HDR := Lib.hid hdr; clear hdr
    have HA := Lib.hid ha; clear ha
    have HDS := Lib.hid hds; clear hds
    cases hone : oneL r with
    | none =>
      have hread : readL s.data.toList = ds := readL_eq ⟨HDS.out, r, HR.out.symm, hone⟩
      have HREAD := Lib.hid hread; clear hread
      have hln := lenS_none (t := s.extract a s.size) (by rw [HTD.out]; exact hone)
      have HO := Lib.hid hone; clear hone
      obtain ⟨T, hT⟩ : ∃ T, s.extract a s.size = T := ⟨_, rfl⟩
      have HTS2 : T.size ≤ 140737488351232 := by rw [← hT, HTS.out]; omega
      rw [hT] at hln
      have hT' := hT
      rcases hln with h2 | ⟨n', hl', hn1, hn9, hop⟩
      · gi_wp2_with (first | (refine ⟨trivial, ?_⟩; gi_at_call 53; refine (callsIn_wide.2 (length.below T (by omega) _)).mono ?_; rintro e w1 ⟨rfl, hb1⟩))
        have hJ1 := hJ _ _ _ none hJs (grown_below_ hb1 none) (fun r e => by cases e)
        rw [Exit.noGoto_normal]
        go_end0
        exact ⟨⟨_, rfl⟩, .inl ⟨_, rfl, by rw [HREAD.out]; exact hJ1⟩⟩
      · have h1 : (lenS T).1 = (n' : Int) := by rw [hl']
        have h2 : (lenS T).2 = true := by rw [hl']
        have HL := Lib.hid hl'; clear hl'
        have hos : T.extract 0 n' = s.extract a (a + n') := by rw [← hT]; exact extract_extract _ _ _ (by rw [← hT, HTS.out] at hn1; omega)
        rw [hos] at hop
        have hanl : a + n' ≤ s.size := by rw [← hT, HTS.out] at hn1; omega
        have hexs : (s.extract a (a + n')).size ≤ 140737488351232 := by rw [extract_size _ _ _ hanl]; omega
        have HOS := Lib.hid hos; clear hos
        have ho2 : (openS (s.extract a (a + n'))).2 = false := by rw [hop]
        have hsl := slice_str s a n' hanl
        have HOP := Lib.hid hop; clear hop
        have HEX := Lib.hid hexs; clear hexs
        gi_wp2_with (first | (refine ⟨trivial, ?_⟩; gi_at_call 53; refine (callsIn_wide.2 (length.below T (by omega) _)).mono ?_; rintro e w1 ⟨rfl, hb1⟩; have hc1 := (hb1.cell (p := ⟨Bs, 0, none⟩) hBw).trans hc) | (refine ⟨trivial, ?_⟩; gi_at_call 54; refine (callsIn_wide.2 (crc_Open.below _ HEX.out _)).mono ?_; rintro e w2 ⟨rfl, hb2⟩))
        have hJ1 := hJ _ _ _ none (hJ _ _ _ none hJs (grown_below_ hb1 none) (fun r e => by cases e)) (grown_below_ hb2 none) (fun r e => by cases e)
        rw [Exit.noGoto_normal]
        go_end0
        exact ⟨⟨_, rfl⟩, .inl ⟨_, rfl, by rw [HREAD.out]; exact hJ1⟩⟩
    | some d =>
      obtain ⟨hl', hn1, hop⟩ := lenS_some (t := s.extract a s.size) (d := d) (by rw [HTD.out]; exact hone)
      obtain ⟨hd, r2, hr2⟩ := oneL_some hone
      have hread : readL s.data.toList = (ds ++ [d]) ++ readL r2 := by
        rw [← HR.out, ← hr2, ← List.append_assoc, ← recsL_one, ← recsL_append]
        exact reads_join (by
          intro x hx
          rcases List.mem_append.1 hx with hx | hx
          · exact HDS.out x hx
          · rw [List.mem_singleton] at hx; rw [hx]; exact hd) r2
      have hpre : recsL (ds ++ [d]) <+: s.data.toList := ⟨r2, by rw [recsL_append, recsL_one, List.append_assoc, hr2, HR.out]⟩
      have hds' : ∀ x ∈ ds ++ [d], x.length ≤ 4096 := by
        intro x hx
        rcases List.mem_append.1 hx with hx | hx
        · exact HDS.out x hx
        · rw [List.mem_singleton] at hx; rw [hx]; exact hd
      obtain ⟨n', hn'⟩ : ∃ n', d.length + 9 = n' := ⟨_, rfl⟩
      have hlen' : (recsL (ds ++ [d])).length = a + n' := by rw [recsL_append, recsL_one, List.length_append, recL_length, HA.out, hn']
      have hens : ends 0 (ds ++ [d]) = ends 0 ds ++ [(a + n', d)] := by rw [ends_snoc, Nat.zero_add, HA.out, hn']
      rw [hn'] at hl' hn1 hop
      have hdn : ds.length ≤ a := by
        rw [← HA.out]; exact recs_count ds
      have hn9 : 9 ≤ n' := by omega
      obtain ⟨T, hT⟩ : ∃ T, s.extract a s.size = T := ⟨_, rfl⟩
      have HTS2 : T.size ≤ 140737488351232 := by rw [← hT, HTS.out]; omega
      have hanl : a + n' ≤ s.size := by rw [HTS.out] at hn1; omega
      have hos : T.extract 0 n' = s.extract a (a + n') := by rw [← hT]; exact extract_extract _ _ _ hanl
      have hexs : (s.extract a (a + n')).size ≤ 140737488351232 := by rw [extract_size _ _ _ hanl]; omega
      rw [hT] at hl' hop
      rw [hos] at hop
      have h1 : (lenS T).1 = (n' : Int) := by rw [hl']
      have h2 : (lenS T).2 = true := by rw [hl']
      have ho1 : (openS (s.extract a (a + n'))).1 = mk (bodyL d) := by rw [hop]
      have ho2 : (openS (s.extract a (a + n'))).2 = true := by rw [hop]
      have hbt := body_tail d
      have hbs : 5 ≤ (mk (bodyL d)).size := by rw [mk_size, bodyL_length]; omega
      have HL := Lib.hid hl'; clear hl'
      have HOS := Lib.hid hos; clear hos
      have hsl := slice_str s a n' hanl
      have HOP := Lib.hid hop; clear hop
      have HEX := Lib.hid hexs; clear hexs
      have HON := Lib.hid hone; clear hone
      have HR2 := Lib.hid hr2; clear hr2
      have HREAD := Lib.hid hread; clear hread
      have HPRE := Lib.hid hpre; clear hpre
      have HDS' := Lib.hid hds'; clear hds'
      have HN' := Lib.hid hn'; clear hn'
      have HLEN' := Lib.hid hlen'; clear hlen'
      have HENS := Lib.hid hens; clear hens
      gi_wp2_with (first | (refine ⟨trivial, ?_⟩; gi_at_call 53; refine (callsIn_wide.2 (length.below T (by omega) _)).mono ?_; rintro e w1 ⟨rfl, hb1⟩; have hc1 := (hb1.cell (p := ⟨Bs, 0, none⟩) hBw).trans hc; have hBw1 : Bs < w1.heap.size := Nat.lt_of_lt_of_le hBw hb1.size) | (refine ⟨trivial, ?_⟩; gi_at_call 54; refine (callsIn_wide.2 (crc_Open.below _ HEX.out _)).mono ?_; rintro e w2 ⟨rfl, hb2⟩; have hc2 := (hb2.cell (p := ⟨Bs, 0, none⟩) hBw1).trans hc1))
      have hJ1 := hJ _ _ _ none (hJ _ _ _ none hJs (grown_below_ hb1 none) (fun r e => by cases e)) (grown_below_ hb2 none) (fun r e => by cases e)
      obtain ⟨fn, tmps, assign, body, hy, hR⟩ := hY _ (a + n', d) w2 hJ1 (by rw [ends_length]; omega)
      unfold recE at hy
      simp only [Int.natCast_add] at hy
      rw [hy]
      gi_wp2
      refine hR.mono ?_
      rintro e W3 (⟨rfl, hJ3, hk3⟩ | ⟨rfl, hJx3⟩)
      · gi_wp2
        go_roundw
        case rel => exact ⟨ds ++ [d], HDS'.out, HPRE.out, by rw [HLEN'.out]; go_num, by rw [HENS.out]; exact hJ3, ((hnx.below hb1 (by rintro k rfl; exact hBw)).below hb2 (by rintro k rfl; exact hBw1)).trans hk3⟩
        case measure => simp [intOf]; omega
      · gi_wp2
        rw [Exit.noGoto_ret]
        refine bodyPost_ret (results_none rfl _ _ _) rfl ?_
        exact ⟨⟨_, rfl⟩, .inr ⟨_, ⟨ends (a + n') (readL r2), by rw [HREAD.out, ends_append, HLEN'.out, HENS.out, Nat.zero_add]⟩, hJx3⟩⟩
theorem records_in (n : Nat) (s : ByteArray) (w : World) :
    CallsIn Fence.wide n Try.prog 43 #[.string s] w fun e w' => e = .returned (.func (.func 52) #[] #[.pointer (some ⟨w.heap.size, 0, none⟩)]) ∧ w' = w.alloc (.cells #[.string s] 9) := by
  refine callsIn_of_wp Try.func43 rfl trivial ?_ rfl
  simp only [Try.ntmps43, List.size_toArray, List.length_cons, List.length_nil, Nat.reduceAdd, Nat.reduceSub, Array.replicate_succ, Array.replicate_zero, List.push_toArray, List.append_toArray, List.nil_append, List.cons_append]
  gi_wp2
  go_ret
  exact ⟨rfl, rfl⟩
theorem records_stops (n : Nat) (hn : 1 ≤ n) (Bs : Nat) (s : ByteArray) (hs : s.size ≤ 140737488351232) (w : World) (hA : Bs < w.heap.size) (hBs : w.cell? ⟨Bs, 0, none⟩ = some (.string s)) :
    SeqStopsK Fence.wide n Try.prog 52 #[.pointer (some ⟨Bs, 0, none⟩)] recE (Keeps (· = Bs)) (fun ys => ys = ends 0 (readL s.data.toList)) (fun pre => pre <+: ends 0 (readL s.data.toList)) s.size w := fun l J Jx W hW hJ _ hY h0 =>
  records1_in n hn l Bs s hs J Jx W hJ (Nat.lt_of_lt_of_le hA hW.size) hY ((hW.cell (p := ⟨Bs, 0, none⟩) hA).trans hBs) h0
end Go.Proofs.Ytmafolojopjenaa.G
