/- A node's notes come in order, taken one by one. -/
import Derived.Test.YthmeakkpmielmaaFliF
import Derived.Test.YthmeakkpmielmaaFliD
namespace Go.Proofs.Ythmeakkpmielmaa.R
open Go.RowKit Go.Proofs.YthmeakkpmielmaaW.PrintWords Go.Proofs.YthmeakkpmielmaaW.PrintMore Go.Proofs.Ythmeakkpmielmaa.P Go.Proofs.Ythmeakkpmielmaa.G
set_option linter.unusedVariables false
set_option linter.unusedSimpArgs false
attribute [local go_sem] Oper.semAt_some max2_int min2_int max_two min_two

/-- A row of numbers of the call's own. -/
def RowU (W : World) (base : Nat) (v : Value) (l : List Int) : Prop := Kd.R (Kd.int .u32) 26 W base (fun _ => True) v l
theorem RowU.nil (W : World) (base : Nat) : RowU W base (.slice none 0 0) [] := Kd.R_nil _ _ _ _ _
theorem RowU.below {W W' : World} {base : Nat} {v : Value} {l : List Int} (h : RowU W base v l) (hb : Below W.heap.size W W') : RowU W' base v l := Kd.R_below h hb
theorem und_u32s : Try.prog.underlying 48 = some (.slice 26) := by kernel_rfl
theorem info_u32 : (Try.prog.info? 26).map (fun i => (i.zero, i.size, i.bytes)) = some (some (.int .u32 0), 1, 4) := by kernel_rfl
theorem plain_u32 : PlainK (Kd.int .u32) := ⟨fun h => h⟩
/-- Beside a flight that is written. -/
theorem RowU.over {W W' : World} {base g : Nat} {v : Value} {l : List Int} {s : Fl} (h : RowU W base v l) (hs : FlS W g s) (hg : W.grownBy W' (some g)) : RowU W' base v l := by
  obtain ⟨_, h1, _⟩ := hs
  exact Kd.R_mono (Kd.R_grown (Kd.R_types h h1 (by rintro q (_ | ⟨_, ⟨⟩⟩); decide)) hg (fun k hk e => hk.2 (Option.some.inj e))) (fun _ _ => trivial)
theorem FlS.overU {W W' : World} {g base : Nat} {v : Value} {l : List Int} {s : Fl} (hs : FlS W g s) (h : RowU W base v l) (hg : W.grownBy W' v.ownBlock) : FlS W' g s := by
  obtain ⟨u, h1, h2⟩ := hs
  refine ⟨u, h1.kept hg (Kd.R_ne h h1 (by decide)), Kd.R_grown2 h2 rfl hg (fun k hk => ?_)⟩
  obtain ⟨inner, ho⟩ := Kd.R_own h
  rcases ho with ⟨_, hv | ⟨b, cap, cells, rfl, _, hb, _⟩⟩
  · rw [hv.1] at hk; cases hk
  · cases hk
    exact Kd.R_ne h2 hb (by decide)
theorem rowOneU (W : World) (x : Int) : Kd.C (Kd.int .u32) (W.alloc (.cells #[.int .u32 x] 26)) (some ⟨W.heap.size, 0, none⟩) ([x] : List Int).length [x] := C_one (d := Kd.int .u32) (W := W) (x := x) (cs := [.int .u32 x]) rfl 26
theorem RowU.append {W : World} {base : Nat} {v : Value} {l : List Int} (h : RowU W base v l) (hl : l.length ≤ 1000000) (hb : base ≤ W.heap.size) (x : Int) :
    ∃ v' W', (∀ ty, (Builtin.append_ #[48, 48] ty #[v, .slice (some ⟨W.heap.size, 0, none⟩) 1 1]).run Try.prog (W.alloc (.cells #[.int .u32 x] 26)) = .ok v' W') ∧ RowU W' base v' (l ++ [x]) ∧ (W.alloc (.cells #[.int .u32 x] 26)).grownBy W' v.ownBlock := by
  obtain ⟨v', W', hr, hR, hg⟩ := append_own_R (P := Try.prog) (d := Kd.int .u32) (W := W.alloc (.cells #[.int .u32 x] 26)) 48 48 26 _ 4 und_u32s info_u32 rfl (by decide) plain_u32 (Kd.R_alloc h _) (rowOneU W x) (fun e => by cases e) (by simp; omega) (by omega) (by simp; omega)
  exact ⟨v', W', fun ty => hr, hR, hg⟩
theorem rd_at (l : List Int) (k : Nat) (h : k < l.length) : rd l (k : Int) = l[k] := by
  unfold rd
  simp [List.getD_eq_getElem?_getD, h]
/-! ### what lies there -/
/-- The notes to three among the first k. -/
def idsL (l : List S35) : List Int := (l.filter fun x => decide (x.f1 = 3)).map (·.f0)
theorem idsL_append (a b : List S35) : idsL (a ++ b) = idsL a ++ idsL b := by unfold idsL; rw [List.filter_append, List.map_append]
theorem idsL_le (l : List S35) : (idsL l).length ≤ l.length := by
  unfold idsL
  rw [List.length_map]
  exact List.length_filter_le _ _
theorem plc_nil_of {l : List S35} (h : idsL l = []) : ∀ k, plc 3 l k = [] := by
  intro k
  unfold plc
  rw [List.filter_eq_nil_iff]
  intro i _
  simp only [decide_eq_true_eq]
  intro e
  unfold idsL at h
  rw [List.map_eq_nil_iff, List.filter_eq_nil_iff] at h
  cases hi : l[i]? with
  | none => rw [hi] at e; cases e
  | some x =>
    rw [hi] at e
    have := h x (List.mem_of_getElem? hi)
    simp at e this
    exact this e
theorem oldest_none {l : List S35} (h : idsL l = []) : oldestF l 3 = -1 := by unfold oldestF; rw [plc_nil_of h]
/-- The oldest note to three: where it lies, what it is, what is left. -/
theorem oldest_some : ∀ {l : List S35} {n : Int} {r : List Int} (_ : idsL l = n :: r), ∃ j : Nat, ∃ h : j < l.length, oldestF l 3 = j ∧ l[j].f0 = n ∧ l[j].f1 = 3 ∧ idsL (l.take j ++ l.drop (j + 1)) = r := by
  intro l
  induction l with
  | nil => intro n r h; cases h
  | cons x l ih =>
    intro n r h
    by_cases hx : x.f1 = 3
    · refine ⟨0, by simp, ?_, ?_, hx, ?_⟩
      · unfold oldestF
        have : plc 3 (x :: l) (x :: l).length = 0 :: ((List.range l.length).map Nat.succ).filter fun i => decide (((x :: l)[i]?.map (·.f1)) = some 3) := by
          unfold plc
          rw [List.length_cons, List.range_succ_eq_map, List.filter_cons_of_pos (by simp [hx])]
        rw [this]
      · unfold idsL at h
        rw [List.filter_cons_of_pos (by simpa using hx), List.map_cons] at h
        exact (List.cons.inj h).1
      · unfold idsL at h ⊢
        rw [List.filter_cons_of_pos (by simpa using hx), List.map_cons] at h
        exact (List.cons.inj h).2
    · have h' : idsL l = n :: r := by
        unfold idsL at h ⊢
        rwa [List.filter_cons_of_neg (by simpa using hx)] at h
      obtain ⟨j, hj, h1, h2, h3, h4⟩ := ih h'
      refine ⟨j + 1, by simpa using hj, ?_, h2, h3, ?_⟩
      · have hp : plc 3 (x :: l) (x :: l).length = (plc 3 l l.length).map Nat.succ := by
          unfold plc
          rw [List.length_cons, List.range_succ_eq_map, List.filter_cons_of_neg (by simpa using hx), List.filter_map]
          rfl
        unfold oldestF at h1 ⊢
        rw [hp]
        cases hq : plc 3 l l.length with
        | nil => rw [hq] at h1; simp at h1
        | cons i q => rw [hq] at h1; simp at h1 ⊢; omega
      · rw [List.take_succ_cons, List.drop_succ_cons, List.cons_append]
        unfold idsL at h4 ⊢
        rw [List.filter_cons_of_neg (by simpa using hx)]
        exact h4
theorem and15 (x : Int) : 0 ≤ bits .and .i64 x 15 ∧ bits .and .i64 x 15 < 16 := by
  have h : (BitVec.ofInt 64 x &&& BitVec.ofInt 64 15).toNat < 16 := by
    rw [BitVec.toNat_and]
    exact Nat.and_lt_two_pow (n := 4) _ (by decide)
  have e : bits .and .i64 x 15 = IntKind.i64.wrap (((BitVec.ofInt 64 x &&& BitVec.ofInt 64 15).toNat : Nat) : Int) := rfl
  rw [e, IntWalk.i64_in _ (by omega)]
  omega
theorem send_ok (s : Fl) (t : Int) (x : ByteArray) (k : Nat) (hn : s.n = k) (hl : s.l.length = k) (hk : k < 60) (h0 : 0 ≤ t) (h1 : t < 16) : sendF s t x = (⟨(k : Int) + 1, s.l ++ [⟨(k : Int) + 1, t, x⟩]⟩, (k : Int) + 1, 0) := by
  unfold sendF
  rw [if_neg (by omega), if_neg (by omega), hn, IntWalk.u32_in _ (by omega)]
set_option maxRecDepth 100000 in
set_option maxHeartbeats 8000000 in
theorem FlightOldest_fin (A0 : Option Addr) (c0 : Nat) (l0 : List Int) (w : World) (hr0 : Kd.C (Kd.int .i64) w A0 l0.length l0) (hc0 : l0.length ≤ c0) (_hm0 : l0.length ≤ maxLen) (_hw0 : ∀ z ∈ l0, (Lit.int .i64 z).wf = true) :
    Calls Try.prog 6 #[.slice A0 l0.length c0] w fun e w' => e = .returned (.bool true) ∧ Below w.heap.size w w' := by
  unfold maxLen at _hm0
  go_enter Try.func6, Try.ntmps6
  go_wp2_with (fail)
  refine (shown.is _).mono ?_
  rintro e w1 ⟨rfl, hb1⟩
  go_wp2_with (fail)
  refine (New.is _).mono ?_
  rintro e w2 ⟨rfl, hs2, hb2⟩
  have hb12 := G.below_then hb1 hb1.size hb2
  have hg0 : w.heap.size ≤ w1.heap.size := hb1.size
  obtain ⟨g, hg⟩ : ∃ g, w1.heap.size = g := ⟨_, rfl⟩
  rw [hg] at hs2 hg0 ⊢
  clear hb2 hb1 hg
  have hr : ∀ b, (some g : Option Nat) = some b → w.heap.size ≤ b := fun b e => by cases e; exact hg0
  go_wp2_with (fail)
  go_loopw [5, 6] (fun v i wr => ∃ (k : Nat) (s : Fl), k ≤ l0.length ∧ k ≤ 60 ∧ i = .int .i64 k ∧ FlS wr g s ∧ s.n = k ∧ s.l.length = k ∧ RowU wr w.heap.size v (idsL s.l) ∧ Below w.heap.size w wr) (fun _ i _ => 60 - (intOf i).toNat)
  case atStart => exact ⟨0, _, Nat.zero_le _, Nat.zero_le _, rfl, hs2, rfl, rfl, RowU.nil _ _, hb12⟩
  case round =>
    obtain ⟨k, s, hk, hk60, rfl, hS, hn, hlen, hR, hB⟩ := hrel
    have HN := Lib.hid hn; clear hn
    have HL := Lib.hid hlen; clear hlen
    by_cases hlt : k < l0.length ∧ k < 60
    · obtain ⟨hl1, hl2⟩ := hlt
      obtain ⟨ad, hAd, x0⟩ := Kd.at_int (Kd.C_below hr0 hB) (k : Int) (by omega) (by omega)
      simp only [Int.toNat_natCast] at x0
      subst hAd
      obtain ⟨X, hX⟩ : ∃ X, rd l0 (k : Int) = X := ⟨_, rfl⟩
      rw [hX] at x0
      have HX := Lib.hid hX; clear hX
      have ht := and15 X
      obtain ⟨T, hT⟩ : ∃ T, bits BinOp.and IntKind.i64 X 15 = T := ⟨_, rfl⟩
      rw [hT] at ht
      have hsnd := Send.is g s T ⟨#[]⟩ wr hS (by rw [HL.out]; omega)
      rw [send_ok s T ⟨#[]⟩ k HN.out HL.out hl2 ht.1 ht.2] at hsnd
      have HSND := Lib.hid hsnd; clear hsnd
      go_wp2_with (fail)
      refine HSND.out.mono ?_
      rintro e w4 ⟨rfl, hs4, hg4⟩
      have hB4 := below_grown' hB hB.size hg4 hr
      have hR4 := hR.over hS hg4
      obtain ⟨ad', hAd', y0⟩ := Kd.at_int (Kd.C_below hr0 hB4) (k : Int) (by omega) (by omega)
      cases hAd'
      rw [HX.out] at y0
      simp only [Int.toNat_natCast] at y0
      by_cases h3 : T = 3
      · subst h3
        have hle := idsL_le s.l
        obtain ⟨v', W', hrn, hR', hgr⟩ := hR4.append (by have := HL.out; omega) hB4.size ((k : Int) + 1)
        have HRN := Lib.hid hrn; clear hrn
        have hS5 : FlS W' g ⟨(k : Int) + 1, s.l ++ [⟨(k : Int) + 1, 3, ⟨#[]⟩⟩]⟩ := FlS.overU (hs4.below ((Below.refl _ w4).alloc (Nat.le_refl _) _)) (hR4.below ((Below.refl _ w4).alloc (Nat.le_refl _) _)) hgr
        have hB5 : Below w.heap.size w W' := below_grown' (hB4.alloc hB4.size _) (hB4.alloc hB4.size _).size hgr (own_block_ge hR4)
        go_wp2_with (at_builtin; refine wpList_append_run rfl rfl rfl rfl HRN.out ?_)
        refine ⟨⟨k + 1, _, by omega, by omega, by go_num, hS5, by simp, by simp [HL.out], ?_, hB5⟩, by simp [intOf]; omega⟩
        rw [idsL_append]
        exact hR'
      · have hd : (T == 3) = false := by simpa using h3
        have H3 := Lib.hid h3; clear h3
        go_wp2_with (fail)
        refine ⟨⟨k + 1, _, by omega, by omega, by go_num, hs4, by simp, by simp [HL.out], ?_, hB4⟩, by simp [intOf]; omega⟩
        rw [idsL_append]
        have : idsL [(⟨(k : Int) + 1, T, ⟨#[]⟩⟩ : S35)] = [] := by unfold idsL; simp [H3.out]
        rw [this, List.append_nil]
        exact hR4
    · have hend : (k < l0.length ∧ k = 60) ∨ k = l0.length := by omega
      clear hlt
      obtain ⟨A3, c3, rfl, hlc3, hC3⟩ := Kd.R_reads hR
      have hl60 : s.l.length ≤ 60 := by rw [HL.out]; exact hk60
      have hLl := idsL_le s.l
      obtain ⟨L, hL⟩ : ∃ L, idsL s.l = L := ⟨_, rfl⟩
      rw [hL] at hR hlc3 hC3 hLl ⊢
      have HLL := Lib.hid hL; clear hL
      rcases hend with ⟨hl, rfl⟩ | rfl
      all_goals
        go_wp2_with (fail)
        go_loopw [9] (fun i wr => ∃ (j : Nat) (q : Fl), j ≤ L.length ∧ i = .int .i64 j ∧ FlS wr g q ∧ idsL q.l = L.drop j ∧ q.l.length ≤ 60 ∧ RowU wr w.heap.size (.slice A3 L.length c3) L ∧ Below w.heap.size w wr) (fun i _ => 60 - (intOf i).toNat)
        case atStart => exact ⟨0, s, Nat.zero_le _, rfl, hS, HLL.out, hl60, hR, hB⟩
        case round =>
          rename_i hB0 _
          obtain ⟨j, q, hj, rfl, hS, hid, hq60, hR, hB⟩ := hrel
          by_cases hjl : j < L.length
          · obtain ⟨i, hi, ho, h1, h2, h3⟩ := oldest_some (n := L[j]) (r := L.drop (j + 1)) (by rw [hid]; exact List.drop_eq_getElem_cons hjl)
            have hold := Oldest.is g q 3 wr hS (by omega)
            rw [ho] at hold
            have HID := Lib.hid hid; clear hid
            have HO := Lib.hid ho; clear ho
            have HOLD := Lib.hid hold; clear hold
            go_wp2_with (fail)
            refine HOLD.out.mono ?_
            rintro e w4 ⟨rfl, hb4⟩
            have hS4 := hS.below hb4
            have hR4 := hR.below hb4
            have hB4 := G.below_then hB hB.size hb4
            have htk := Take.in_ g q i w4 hS4 hi (by omega)
            obtain ⟨y, hy⟩ : ∃ y, q.l[i] = y := ⟨_, rfl⟩
            rw [hy] at htk h1 h2
            have HY := Lib.hid hy; clear hy
            have HTK := Lib.hid htk; clear htk
            unfold noteV at HTK
            go_wp2_with (fail)
            refine HTK.out.mono ?_
            rintro e w5 ⟨rfl, hS5, hg5⟩
            have hR5 := hR4.over hS4 hg5
            have hB5 := below_grown' hB4 hB4.size hg5 hr
            have hb6 : Below w5.heap.size w5 (w5.alloc (.cells #[.int .u32 y.f0, .int .i64 y.f1, .string y.f2] 35)) := (Below.refl _ w5).alloc (Nat.le_refl _) _
            have hS6 := hS5.below hb6
            have hR6 := hR5.below hb6
            have hB6 := G.below_then hB5 hB5.size hb6
            obtain ⟨A6, c6, hv6, hlc6, hC6⟩ := Kd.R_reads hR6
            cases hv6
            obtain ⟨ad', hAd', y0⟩ := Kd.at_int hC6 (j : Int) (by omega) (by omega)
            subst hAd'
            rw [rd_at L j hjl] at y0
            simp only [Int.toNat_natCast] at y0
            obtain ⟨y0', y1', y2'⟩ : y.f0 = L[j] ∧ y.f1 = 3 ∧ True := ⟨h1, h2, trivial⟩
            obtain ⟨z0, z1, z2⟩ := y
            simp only at y0' y1' h1 h2 hb6 hS6 hR6 hB6 hC6 y0
            subst h1 h2
            clear y0' y1'
            go_wp2_with (fail)
            go_quiet (fail)
            go_wp2_with (fail)
            refine ⟨⟨j + 1, ⟨q.n, q.l.take i ++ q.l.drop (i + 1)⟩, by omega, by go_num, hS6, h3, ?_, hR6, below_drewN hB6 nq⟩, by simp [intOf]; omega⟩
            show (q.l.take i ++ q.l.drop (i + 1)).length ≤ 60
            rw [List.length_append, List.length_take, List.length_drop]
            omega
          · obtain rfl : j = L.length := by omega
            rw [List.drop_length] at hid
            have ho := oldest_none hid
            have hold := Oldest.is g q 3 wr hS (by omega)
            rw [ho] at hold
            have HOLD := Lib.hid hold; clear hold
            clear hid ho
            go_wp2_with (fail)
            refine HOLD.out.mono ?_
            rintro e w4 ⟨rfl, hb4⟩
            have hB4 := G.below_then hB hB.size hb4
            go_wp2
            go_ret
            exact ⟨rfl, hB4⟩
end Go.Proofs.Ythmeakkpmielmaa.R
