/- Records: what Record, Repair, Whole, Append tell. -/
import Derived.Test.YtmafolojopjenaaJouE
import Derived.WalkMore
import Derived.ScopeJumps
namespace Go.Proofs.Ytmafolojopjenaa.G
open Go.RowKit Go.Shelf Go.Proofs.YtmafolojopjenaaW.PrintWords Go.Proofs.Ytmafolojopjenaa.Cr Go.Proofs.Ytmafolojopjenaa.Jo
attribute [local go_sem] Oper.semAt_some

theorem mk_inj {a b : Jo.Bs} (h : mk a = mk b) : a = b := by rw [← data_mk a, h, data_mk]
def recordS (s : ByteArray) : ByteArray × Int := if 4096 < s.size then (⟨#[]⟩, 30) else (mk (recL s.data.toList), 0)
theorem joinS_body (s : ByteArray) : joinS [⟨#[52]⟩, putS (toB (s.size : Int)), s] = mk (bodyL s.data.toList) := by
  unfold joinS bodyL putS
  congr 1
  simp only [List.flatMap_cons, List.flatMap_nil, List.append_nil]
  rw [show toB (s.size : Int) = BitVec.ofNat 32 s.data.toList.length by rw [size_data]; unfold toB; simp]
  rfl
theorem seal_mk (l : Jo.Bs) : sealS (mk l) = mk (l ++ putL (sumB l)) := by
  apply ext_data
  rw [sealS_data, data_mk, data_mk]
theorem rowS (W : World) (cs : List ByteArray) (hn : cs.length ≤ 100) : Kd.C Kd.string (W.alloc (.cells (cs.map Value.string).toArray 9)) (some ⟨W.heap.size, 0, none⟩) cs.length cs := by
  have hb := World.alloc_heap_new W (.cells (cs.map Value.string).toArray 9)
  refine C_new (rest := []) (e := 9) (inner := cs.map Value.string) ⟨by simp [show Kd.string.sz = 1 from rfl], fun j p hj => ?_⟩ (by rw [List.append_nil]; exact hb) (by omega)
  rw [show Kd.string.sz = 1 from rfl, Nat.mul_one]
  have hj2 := (List.getElem?_eq_some_iff.1 hj).1
  have : (cs.map Value.string).drop j = .string p :: (cs.map Value.string).drop (j + 1) := by
    rw [List.drop_eq_getElem_cons (by simpa using hj2)]
    congr 1
    rw [List.getElem_map]
    congr 1
    exact (List.getElem?_eq_some_iff.1 hj).2
  rw [this]
  rfl
theorem row3 (W : World) (a b c : ByteArray) : Kd.C Kd.string (W.alloc (.cells #[.string a, .string b, .string c] 9)) (some ⟨W.heap.size, 0, none⟩) 3 [a, b, c] := rowS W [a, b, c] (by simp)
theorem row2 (W : World) (a b : ByteArray) : Kd.C Kd.string (W.alloc (.cells #[.string a, .string b] 9)) (some ⟨W.heap.size, 0, none⟩) 2 [a, b] := rowS W [a, b] (by simp)
set_option maxRecDepth 100000 in
set_option maxHeartbeats 4000000 in
theorem Record.below (s : ByteArray) (hs : s.size ≤ 140737488351232) (w : World) :
    Calls Try.prog 28 #[.string s] w fun e w' => e = .returned (.tuple #[.string (recordS s).1, .int .i64 (recordS s).2]) ∧ Below w.heap.size w w' := by
  by_cases h : 4096 < s.size
  · have hr : recordS s = (⟨#[]⟩, 30) := by unfold recordS; rw [if_pos h]
    have d : decide (4096 < (s.size : Int)) = true := by simp; omega
    rw [hr]
    have HR := Lib.hid hr; clear hr
    go_enter Try.func28, Try.ntmps28
    go_wp2
    go_ret2
    exact ⟨rfl, Below.refl _ _⟩
  · have hr : recordS s = (mk (recL s.data.toList), 0) := by unfold recordS; rw [if_neg h]
    have d : decide (4096 < (s.size : Int)) = false := by simp; omega
    have hP : ∀ w, Calls Try.prog 46 #[.int .u32 (s.size : Int)] w fun e w' => e = .returned (.string (putS (toB (s.size : Int)))) ∧ Below w.heap.size w w' := by
      intro w
      have := crc_Put.below (toB (s.size : Int)) w
      rw [ofB_toB (by omega) (by omega)] at this
      exact this
    have hJ : ∀ (w : World) (c : Nat) (A : Option Addr), Kd.C Kd.string w A 3 [⟨#[52]⟩, putS (toB (s.size : Int)), s] → 3 ≤ c → Calls Try.prog 45 #[.slice A 3 c] w fun e w' => e = .returned (.string (mk (bodyL s.data.toList))) ∧ Below w.heap.size w w' := by
      intro w c A hC hc
      have := joined.below A c [⟨#[52]⟩, putS (toB (s.size : Int)), s] w hC hc (by rw [joinS_body, mk_size, bodyL_length, size_data]; omega) (by simp)
      rw [joinS_body] at this
      exact this
    have hS : ∀ w, Calls Try.prog 44 #[.string (mk (bodyL s.data.toList))] w fun e w' => e = .returned (.string (mk (recL s.data.toList))) ∧ Below w.heap.size w w' := by
      intro w
      have := crc_Seal.below (mk (bodyL s.data.toList)) (by rw [mk_size, bodyL_length, size_data]; omega) w
      rw [seal_mk] at this
      exact this
    rw [hr]
    have HR := Lib.hid hr; clear hr
    have HP := Lib.hid hP; clear hP
    have HJ := Lib.hid hJ; clear hJ
    have HS := Lib.hid hS; clear hS
    go_enter Try.func28, Try.ntmps28
    go_wp2_with (first | (go_at_call 46; (with_reducible refine (HP.out _).mono ?_); rintro e w1 ⟨rfl, hb1⟩) | (go_at_call 45; (with_reducible refine (HJ.out _ _ _ ?hc (by omega)).mono ?_); (case hc => exact row3 _ _ _ _); rintro e w2 ⟨rfl, hb2⟩) | (go_at_call 44; (with_reducible refine (HS.out _).mono ?_); rintro e w3 ⟨rfl, hb3⟩))
    go_ret2
    exact ⟨rfl, below_then (below_then (hb1.alloc hb1.size _) (by have := hb1.size; simp; omega) hb2) (by have := hb1.size; have := hb2.size; simp at this; omega) hb3⟩
theorem ret_bool' {a b : Bool} (h : a = b) : Ending.returned (.bool a) = .returned (.bool b) := by rw [h]
def repairS (s : ByteArray) : ByteArray := s.extract 0 (goodL s.data.toList)
theorem good_le (s : ByteArray) : goodL s.data.toList ≤ s.size := by have := goodL_le s.data.toList; rwa [size_data] at this
set_option maxHeartbeats 1000000 in
theorem Repair.below (s : ByteArray) (hs : s.size ≤ 1000000000) (w : World) :
    Calls Try.prog 26 #[.string s] w fun e w' => e = .returned (.string (repairS s)) ∧ Below w.heap.size w w' := by
  obtain ⟨g, hg⟩ : ∃ g, goodL s.data.toList = g := ⟨_, rfl⟩
  have hgs : g ≤ s.size := by rw [← hg]; exact good_le s
  have hR := fun w => Read.below s hs w
  have h2 : (readS s).2 = (g : Int) := by unfold readS; rw [hg]
  have h3 : (0 : Int) ≤ g := by omega
  have h4 : (g : Int) ≤ (s.size : Int) := by omega
  have HR := Lib.hid hR; clear hR
  have HG := Lib.hid hg; clear hg
  have H2 := Lib.hid h2; clear h2
  unfold repairS
  rw [HG.out]
  go_enter Try.func26, Try.ntmps26
  go_wp2_with (go_at_call 25; (with_reducible refine (HR.out _).mono ?_); rw [H2.out]; rintro e w1 ⟨v, rfl, _, hb⟩)
  go_ret
  exact ⟨rfl, hb⟩
def wholeS (s : ByteArray) : Bool := decide (goodL s.data.toList = s.size)
theorem repair_size (s : ByteArray) : (repairS s).size = goodL s.data.toList := by unfold repairS; rw [extract_size _ _ _ (good_le s), Nat.sub_zero]
set_option maxHeartbeats 1000000 in
theorem Whole.below (s : ByteArray) (hs : s.size ≤ 1000000000) (w : World) :
    Calls Try.prog 31 #[.string s] w fun e w' => e = .returned (.bool (wholeS s)) ∧ Below w.heap.size w w' := by
  have hR := fun w => Repair.below s hs w
  have hz := repair_size s
  have hw : wholeS s = decide ((repairS s).size = s.size) := by unfold wholeS; rw [hz]
  obtain ⟨r, hr⟩ : ∃ r, repairS s = r := ⟨_, rfl⟩
  rw [hr] at hw
  rw [hr] at hR
  have HR := Lib.hid hR; clear hR
  have HZ := Lib.hid hz; clear hz
  rw [hw]
  have HW := Lib.hid hw; clear hw
  have HH := Lib.hid hr; clear hr
  go_enter Try.func31, Try.ntmps31
  go_wp2_with (go_at_call 26; (with_reducible refine (HR.out _).mono ?_); rintro e w1 ⟨rfl, hb⟩)
  go_ret
  exact ⟨ret_bool' (by rw [Bool.eq_iff_iff]; simp; omega), hb⟩
def appendS (s d : ByteArray) (keep : Int) : ByteArray × Int :=
  if wholeS s = false then (⟨#[]⟩, 31) else if 4096 < d.size ∨ 1048576 < s.size + (d.size + 9) then (⟨#[]⟩, 30) else (mk (s.data.toList ++ (recL d.data.toList).take (max keep 0).toNat), 0)
theorem slice_to (s : ByteArray) (k : Int) (h0 : 0 ≤ k) (h1 : k ≤ (s.size : Int)) (w : World) : (Instr.slice 9 (.string s) none (some (.int .i64 k)) none).run Try.prog w = .ok (.string (s.extract 0 k.toNat)) w := by
  exact Go.run_slice_string_h (P := Try.prog) (w := w) 9 s Try.underlying9 .i64 k h0 h1
/-- What is known where Append jumps to its end. -/
def JAp (w : World) (a' : Act) (w' : World) : Prop := (∃ (u0 u1 u2 u3 u4 u5 u6 u7 u8 u9 u10 u11 u12 u13 u14 u15 u16 u17 u18 u19 u20 u21 u22 u23 u24 u25 u26 u27 u28 u29 u30 u31 u32 u33 u34 u35 u36 u37 : Value), a' = { tmps := #[u0, u1, u2, u3, u4, u5, u6, u7, u8, u9, u10, u11, u12, u13, u14, u15, u16, u17, u18, u19, u20, u21, u22, u23, u24, u25, u26, u27, u28, u29, u30, u31, u32, u33, u34, u35, u36, u37], defers := [] }) ∧ Below w.heap.size w w'
set_option maxRecDepth 100000 in
set_option maxHeartbeats 1000000 in
theorem Append.below (s d : ByteArray) (keep : Int) (hs : s.size ≤ 1000000000) (hd : d.size ≤ 140737488351232) (w : World) :
    Calls Try.prog 34 #[.string s, .string d, .int .i64 keep] w fun e w' => e = .returned (.tuple #[.string (appendS s d keep).1, .int .i64 (appendS s d keep).2]) ∧ Below w.heap.size w w' := by
  have hW := fun w => Whole.below s hs w
  have hRc := fun w => Record.below d hd w
  have HRC := Lib.hid hRc; clear hRc
  by_cases h1 : wholeS s = false
  · have ha : appendS s d keep = (⟨#[]⟩, 31) := by unfold appendS; rw [if_pos h1]
    rw [h1] at hW
    rw [ha]
    have HW := Lib.hid hW; clear hW
    have HA := Lib.hid ha; clear ha
    have H1 := Lib.hid h1; clear h1
    go_enter Try.func34, Try.ntmps34
    go_wp2_with (fail)
    go_step3
    go_wp2_with (go_at_call 31; (with_reducible refine (HW.out _).mono ?_); rintro e w1 ⟨rfl, hb⟩)
    try rw [Exit.noGoto_ret]
    go_ret2
    exact ⟨rfl, hb⟩
  · have h1' : wholeS s = true := by simpa using h1
    rw [h1'] at hW
    have HW := Lib.hid hW; clear hW
    by_cases h2 : 4096 < d.size ∨ 1048576 < s.size + (d.size + 9)
    · have ha : appendS s d keep = (⟨#[]⟩, 30) := by unfold appendS; rw [if_neg h1, if_pos h2]
      rw [ha]
      have HA := Lib.hid ha; clear ha
      have H1 := Lib.hid h1; clear h1
      have H1' := Lib.hid h1'; clear h1'
      by_cases h3 : 4096 < d.size
      · have hr : recordS d = (⟨#[]⟩, 30) := by unfold recordS; rw [if_pos h3]
        have H2 := Lib.hid h2; clear h2
        have H3 := Lib.hid h3; clear h3
        have HR := Lib.hid hr; clear hr
        go_enter Try.func34, Try.ntmps34
        go_wp2_with (fail)
        refine wp_scope_jumps 0 (JAp w) (fun _ _ => 0) rfl ?_ ?_
        rotate_left
        · rintro a' w' ⟨⟨u0, u1, u2, u3, u4, u5, u6, u7, u8, u9, u10, u11, u12, u13, u14, u15, u16, u17, u18, u19, u20, u21, u22, u23, u24, u25, u26, u27, u28, u29, u30, u31, u32, u33, u34, u35, u36, u37, rfl⟩, hb⟩
          go_wp2
          simp only [Exit.jump]
          go_ret2
          exact ⟨rfl, hb⟩
        go_wp2_with (first | (go_at_call 31; (with_reducible refine (HW.out _).mono ?_); rintro e w1 ⟨rfl, hb⟩) | (go_at_call 28; (with_reducible refine (HRC.out _).mono ?_); rw [HR.out]; rintro e w2 ⟨rfl, hb2⟩))
        go_step3
        exact ⟨rfl, ⟨_, _, _, _, _, _, _, _, _, _, _, _, _, _, _, _, _, _, _, _, _, _, _, _, _, _, _, _, _, _, _, _, _, _, _, _, _, _, rfl⟩, below_then hb hb.size hb2⟩
      · have hr : recordS d = (mk (recL d.data.toList), 0) := by unfold recordS; rw [if_neg h3]
        obtain ⟨R, hR⟩ : ∃ R, mk (recL d.data.toList) = R := ⟨_, rfl⟩
        have hRz : R.size = d.size + 9 := by rw [← hR, mk_size, recL_length, size_data]
        rw [hR] at hr
        have hgt : decide (1048576 < (s.size : Int) + (R.size : Int)) = true := by simp; omega
        have hl1 : (s.size : Int) + (R.size : Int) ≤ 9223372036854775807 := by omega
        have hw1 := IntWalk.i64_in ((s.size : Int) + (R.size : Int)) (by omega)
        have H2 := Lib.hid h2; clear h2
        have H3 := Lib.hid h3; clear h3
        have HR := Lib.hid hr; clear hr
        have HRZ := Lib.hid hRz; clear hRz
        clear hR
        go_enter Try.func34, Try.ntmps34
        go_wp2_with (fail)
        refine wp_scope_jumps 0 (JAp w) (fun _ _ => 0) rfl ?_ ?_
        rotate_left
        · rintro a' w' ⟨⟨u0, u1, u2, u3, u4, u5, u6, u7, u8, u9, u10, u11, u12, u13, u14, u15, u16, u17, u18, u19, u20, u21, u22, u23, u24, u25, u26, u27, u28, u29, u30, u31, u32, u33, u34, u35, u36, u37, rfl⟩, hb⟩
          go_wp2
          simp only [Exit.jump]
          go_ret2
          exact ⟨rfl, hb⟩
        go_wp2_with (first | (go_at_call 31; (with_reducible refine (HW.out _).mono ?_); rintro e w1 ⟨rfl, hb⟩) | (go_at_call 28; (with_reducible refine (HRC.out _).mono ?_); rw [HR.out]; rintro e w2 ⟨rfl, hb2⟩))
        go_step3
        exact ⟨rfl, ⟨_, _, _, _, _, _, _, _, _, _, _, _, _, _, _, _, _, _, _, _, _, _, _, _, _, _, _, _, _, _, _, _, _, _, _, _, _, _, rfl⟩, below_then hb hb.size hb2⟩
    · have ha : appendS s d keep = (mk (s.data.toList ++ (recL d.data.toList).take (max keep 0).toNat), 0) := by unfold appendS; rw [if_neg h1, if_neg h2]
      have hr : recordS d = (mk (recL d.data.toList), 0) := by unfold recordS; rw [if_neg (by omega)]
      obtain ⟨R, hR⟩ : ∃ R, mk (recL d.data.toList) = R := ⟨_, rfl⟩
      have hRz : R.size = d.size + 9 := by rw [← hR, mk_size, recL_length, size_data]
      obtain ⟨k, hk⟩ : ∃ k : Int, min (max keep 0) (R.size : Int) = k := ⟨_, rfl⟩
      have hk0 : 0 ≤ k := by omega
      have hk1 : k ≤ (R.size : Int) := by omega
      have hJ : ∀ (w : World) (c : Nat) (A : Option Addr), Kd.C Kd.string w A 2 [s, R.extract 0 k.toNat] → 2 ≤ c → Calls Try.prog 45 #[.slice A 2 c] w fun e w' => e = .returned (.string (mk (s.data.toList ++ (recL d.data.toList).take (max keep 0).toNat))) ∧ Below w.heap.size w w' := by
        intro w c A hC hc
        have hjs : joinS [s, R.extract 0 k.toNat] = mk (s.data.toList ++ (recL d.data.toList).take (max keep 0).toNat) := by
          unfold joinS
          simp only [List.flatMap_cons, List.flatMap_nil, List.append_nil]
          congr 2
          rw [data_extract, ← hR, data_mk, List.drop_zero, Nat.sub_zero]
          have hl : (recL d.data.toList).length = R.size := by rw [← hR, mk_size]
          by_cases hc : max keep 0 ≤ (R.size : Int)
          · rw [show k = max keep 0 by omega]
          · rw [List.take_of_length_le (by omega), List.take_of_length_le (by omega)]
        have hsz : (joinS [s, R.extract 0 k.toNat]).size ≤ 140737488351232 := by
          rw [hjs, mk_size, List.length_append, size_data]
          have := List.length_take_le (max keep 0).toNat (recL d.data.toList)
          have hl : (recL d.data.toList).length = R.size := by rw [← hR, mk_size]
          have : ((recL d.data.toList).take (max keep 0).toNat).length ≤ (recL d.data.toList).length := by rw [List.length_take]; omega
          omega
        have := joined.below A c [s, R.extract 0 k.toNat] w hC hc hsz (by simp)
        rw [hjs] at this
        exact this
      rw [hR] at hr
      have hgt : decide (1048576 < (s.size : Int) + (R.size : Int)) = false := by simp; omega
      have hw1 := IntWalk.i64_in ((s.size : Int) + (R.size : Int)) (by omega)
      have hsl := slice_to R k hk0 hk1
      rw [ha]
      have HA := Lib.hid ha; clear ha
      have H1 := Lib.hid h1; clear h1
      have H1' := Lib.hid h1'; clear h1'
      have H2 := Lib.hid h2; clear h2
      have HR := Lib.hid hr; clear hr
      have HRZ := Lib.hid hRz; clear hRz
      have HJ := Lib.hid hJ; clear hJ
      clear hR
      go_enter Try.func34, Try.ntmps34
      go_wp2_with (fail)
      go_step3
      go_wp2_with (first | (go_at_call 31; (with_reducible refine (HW.out _).mono ?_); rintro e w1 ⟨rfl, hb⟩) | (go_at_call 28; (with_reducible refine (HRC.out _).mono ?_); rw [HR.out]; rintro e w2 ⟨rfl, hb2⟩) | (go_at_call 45; (with_reducible refine (HJ.out _ _ _ ?hc (by omega)).mono ?_); (case hc => exact row2 _ _ _); rintro e w3 ⟨rfl, hb3⟩))
      try rw [Exit.noGoto_ret]
      go_ret2
      exact ⟨rfl, below_then (below_then (below_then hb hb.size hb2) (by have := hb.size; have := hb2.size; omega) ((Below.refl _ _).alloc (Nat.le_refl _) _)) (by have := hb.size; have := hb2.size; simp; omega) hb3⟩
end Go.Proofs.Ytmafolojopjenaa.G
