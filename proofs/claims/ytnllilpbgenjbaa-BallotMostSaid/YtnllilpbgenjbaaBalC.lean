/- Ballots: areRight, Proposal of the program: what they tell. -/
import Derived.Test.YtnllilpbgenjbaaBalB
namespace Go.Proofs.Ytnllilpbgenjbaa.G
open Go.RowKit Go.Shelf Go.Proofs.YtnllilpbgenjbaaW.PrintWords Go.Proofs.Ytnllilpbgenjbaa.P
attribute [local go_sem] Oper.semAt_some

def rightV (x : S24) : Bool := rightS x.f0 x.f1 x.f2
theorem areRight1.below (p b : Int) (v : ByteArray) (w : World) :
    Calls Try.prog 31 #[.agg #[.int .u64 p, .int .u64 b, .string v]] w fun e w' => e = .returned (.bool (!rightS p b v)) ∧ Below w.heap.size w w' := by
  go_enter Try.func31, Try.ntmps31
  go_wp2_with (go_at_call 16; refine (Right.exact _ _ _ _).mono ?_; rintro e w1 ⟨rfl, rfl⟩)
  go_ret
  exact ⟨rfl, by go_grown⟩
theorem all_take_succ (ls : List S24) (k : Nat) (h : k < ls.length) : (ls.take (k + 1)).all rightV = ((ls.take k).all rightV && rightV ls[k]) := by
  rw [List.take_succ_eq_append_getElem h, List.all_append]
  simp
set_option maxRecDepth 100000 in
set_option maxHeartbeats 4000000 in
theorem indexVote.below (A : Option Addr) (c : Nat) (ls : List S24) (hl : ls.length ≤ 140737488351232) (w : World) (hC : Kd.C k24 w A ls.length ls) :
    Calls Try.prog 34 #[.slice A ls.length c, .func (.func 31) #[] #[]] w fun e w' =>
      (∃ r : Int, e = .returned (.int .i64 r) ∧ ((r = -1 ∧ ls.all rightV = true) ∨ (0 ≤ r ∧ ls.all rightV = false))) ∧ Below w.heap.size w w' := by
  go_enter Try.func34, Try.ntmps34
  go_wp2
  go_loopw [8] (fun i wr => ∃ k : Nat, k ≤ ls.length ∧ i = .int .i64 k ∧ (ls.take k).all rightV = true ∧ Below w.heap.size w wr) (fun i _ => ls.length - (intOf i).toNat)
  case atStart => exact ⟨0, Nat.zero_le _, rfl, rfl, Below.refl _ _⟩
  case round =>
    obtain ⟨k, hk, rfl, hall, hB⟩ := hrel
    have HALL := Lib.hid hall; clear hall
    by_cases hlt : k < ls.length
    · obtain ⟨ad, hAd, c0, c1, c2⟩ := at_T24 (Kd.C_below hC hB) (k : Int) (by omega) (by omega)
      rw [rd_get ls k hlt] at c0 c1 c2
      simp only [Int.toNat_natCast] at c0 c1 c2
      subst hAd
      have hs := Lib.hid (all_take_succ ls k hlt)
      by_cases hr : rightS ls[k].f0 ls[k].f1 ls[k].f2 = true
      · go_wp2_with (go_at_call 31; refine (areRight1.below _ _ _ _).mono ?_; rintro e w1 ⟨rfl, hb1⟩)
        go_roundw
        case rel => exact ⟨k + 1, by omega, by go_num, by rw [hs.out, HALL.out]; exact hr, below_then hB hB.size hb1⟩
        case measure => simp [intOf]; omega
      · have hr' : rightS ls[k].f0 ls[k].f1 ls[k].f2 = false := by simpa using hr
        clear hr
        go_wp2_with (go_at_call 31; refine (areRight1.below _ _ _ _).mono ?_; rintro e w1 ⟨rfl, hb1⟩)
        go_ret
        refine ⟨⟨_, rfl, .inr ⟨by omega, ?_⟩⟩, below_then hB hB.size hb1⟩
        rw [Bool.eq_false_iff]
        intro h
        rw [List.all_eq_true] at h
        have := h ls[k] (List.getElem_mem hlt)
        unfold rightV at this
        rw [hr'] at this
        cases this
    · obtain rfl : k = ls.length := by omega
      go_wp2
      go_ret
      exact ⟨⟨_, rfl, .inl ⟨rfl, by have := HALL.out; rwa [List.take_length] at this⟩⟩, hB⟩
theorem containsVote.below (A : Option Addr) (c : Nat) (ls : List S24) (hl : ls.length ≤ 140737488351232) (w : World) (hC : Kd.C k24 w A ls.length ls) :
    Calls Try.prog 30 #[.slice A ls.length c, .func (.func 31) #[] #[]] w fun e w' => e = .returned (.bool (!ls.all rightV)) ∧ Below w.heap.size w w' := by
  go_enter Try.func30, Try.ntmps30
  go_wp2_with (go_at_call 34; refine (indexVote.below _ _ _ hl _ hC).mono ?_; rintro e w1 ⟨⟨r, rfl, hr⟩, hb1⟩)
  go_ret
  refine ⟨ret_bool ?_, hb1⟩
  rcases hr with ⟨rfl, h⟩ | ⟨h0, h⟩
  · rw [h]; rfl
  · rw [h]; simpa using h0
theorem areRight.below (A : Option Addr) (c : Nat) (ls : List S24) (hl : ls.length ≤ 140737488351232) (w : World) (hC : Kd.C k24 w A ls.length ls) :
    Calls Try.prog 26 #[.slice A ls.length c] w fun e w' => e = .returned (.bool (ls.all rightV)) ∧ Below w.heap.size w w' := by
  go_enter Try.func26, Try.ntmps26
  go_wp2_with (go_at_call 30; refine (containsVote.below _ _ _ hl _ hC).mono ?_; rintro e w1 ⟨rfl, hb1⟩)
  go_ret
  exact ⟨ret_bool (by simp), hb1⟩
/-! ### Proposal -/
def better (a x : S24) : S24 := if a.f1 < x.f1 then x else a
def bestV (own : ByteArray) (l : List S24) : S24 := l.foldl better ⟨0, 0, own⟩
theorem bestV_snoc (own : ByteArray) (l : List S24) (x : S24) : bestV own (l ++ [x]) = better (bestV own l) x := by simp [bestV]
def voteC (x : S24) : Array Value := #[.int .u64 x.f0, .int .u64 x.f1, .string x.f2]
def proposalS (n : Int) (ls : List S24) (own : ByteArray) : ByteArray × Int :=
  if n < 1 ∨ 16 < n ∨ n < ls.length ∨ (ls.length : Int) ≤ n / 2 then (⟨#[]⟩, 81)
  else if ls.all rightV = false ∨ ¬ own.size ≤ 4000 then (⟨#[]⟩, 2) else ((bestV own (castL ls)).f2, 0)
theorem ret_si {a b : ByteArray × Int} (h : a = b) : Ending.returned (.tuple #[.string a.1, .int .i64 a.2]) = .returned (.tuple #[.string b.1, .int .i64 b.2]) := by rw [h]
set_option maxRecDepth 100000 in
set_option maxHeartbeats 4000000 in
theorem Proposal.yes (n : Nat) (A : Option Addr) (c : Nat) (ls : List S24) (own : ByteArray) (w : World) (hC : Kd.C k24 w A ls.length ls) (h1 : 1 ≤ n) (h2 : n ≤ 16) (h3 : ls.length ≤ n) (h4 : n / 2 < ls.length) (hr : ls.all rightV = true) (ho : own.size ≤ 4000) :
    Calls Try.prog 22 #[.int .i64 n, .slice A ls.length c, .string own] w fun e w' => e = .returned (.tuple #[.string (bestV own (castL ls)).f2, .int .i64 0]) ∧ Below w.heap.size w w' := by
  have d1 : decide ((n : Int) < 1) = false := by simp; omega
  have d2 : decide (16 < (n : Int)) = false := by simp; omega
  have d3 : decide ((n : Int) < (ls.length : Int)) = false := by simp; omega
  have d4 : decide ((ls.length : Int) ≤ (n : Int) / 2) = false := by simp; omega
  have d4' : decide ((ls.length : Int) ≤ ((n / 2 : Nat) : Int)) = false := by simp; omega
  have d5 : decide (own.size ≤ 4000) = true := by simpa using ho
  have HR := Lib.hid hr
  have HO := Lib.hid ho; clear ho
  refine (callsIn_wide (n := 6)).1 ?_
  refine callsIn_of_wp_marks Try.func22 rfl trivial ?_ rfl
  simp only [Try.ntmps22, List.size_toArray, List.length_cons, List.length_nil, Nat.reduceAdd, Nat.reduceSub, Array.replicate_succ, Array.replicate_zero, List.push_toArray, List.append_toArray, List.nil_append, List.cons_append]
  refine wpIn_wide.2 ?_
  go_wp2_with (first | (go_at_call 26; refine (areRight.below _ _ _ (by omega) _ hC).mono ?_; rintro e w1 ⟨rfl, hb1⟩; have hz1 := hb1.size) | (go_at_call 25; refine (areShort.same _ _ own _ ?hcy).mono ?_; (case hcy => (first | go_cell | (simp [go_sem]; done))); rintro e w' ⟨rfl, rfl⟩) | (go_at_call 27; refine ((callsIn_wide (n := 6)).1 (cast_in 6 _ _ _ _)).mono ?_; rintro e w2 ⟨rfl, rfl⟩))
  have hb2 := (Blk.new (w1.alloc (.cells #[.string own] 9)) 24 (voteC ⟨0, 0, own⟩)).alloc (.cells #[.slice A ls.length c] 36)
  have hb3 := Boxed.new ((w1.alloc (.cells #[.string own] 9)).alloc (.cells (voteC ⟨0, 0, own⟩) 24)) 36 (.slice A ls.length c)
  have hB0 : Below w.heap.size w (((w1.alloc (.cells #[.string own] 9)).alloc (.cells (voteC ⟨0, 0, own⟩) 24)).alloc (.cells #[.slice A ls.length c] 36)) := ((hb1.alloc hb1.size _).alloc (by simp; omega) _).alloc (by simp; omega) _
  simp only [World.size_alloc] at hb2 hb3
  obtain ⟨W0, hW0⟩ : ∃ W0, ((w1.alloc (.cells #[.string own] 9)).alloc (.cells (voteC ⟨0, 0, own⟩) 24)).alloc (.cells #[.slice A ls.length c] 36) = W0 := ⟨_, rfl⟩
  have hs0 : W0.heap.size = w1.heap.size + 3 := by rw [← hW0]; simp
  have hC0 : Kd.C k24 W0 A ls.length ls := by rw [← hW0]; exact Kd.C_below hC hB0
  rw [hW0] at hb2 hb3 hB0
  have hW0' : ((w1.alloc (.cells #[.string own] 9)).alloc (.cells #[.int .u64 0, .int .u64 0, .string own] 24)).alloc (.cells #[.slice A ls.length c] 36) = W0 := hW0
  rw [hW0']
  have hNb : ¬ RdB (w1.heap.size + 2) A ls.length (w1.heap.size + 1) := by
    rintro (h | ⟨hn, ad, rfl, h⟩)
    · omega
    · obtain ⟨ad', e, c0, _⟩ := at_T24 hC 0 (by omega) (by omega)
      cases e
      have := World.block_lt_of_cell? w _ c0
      rw [show (ad.add ((0 : Int).toNat * 3)).block = ad.block by unfold Addr.add; split <;> rfl] at this
      omega
  clear hW0 hW0'
  refine wpIn_wide.1 (?_ : Code.wpIn Fence.wide 6 Try.prog _ _ _ _)
  refine wpIn_rangeFunc_ownH rfl (by omega) (gf := 32) (lb := #[.pointer (some ⟨w1.heap.size + 2, 0, none⟩)]) rfl trivial (enters_of Try.func32 (by kernel_rfl) rfl)
    (cast_stops (6 - 1) (by omega) (w1.heap.size + 2) A c ls (by omega) W0 (rdb_lt (by omega) hC0) hb3.cell hC0) Keeps.trans (keeps_b (rdb_lt (by omega) hC0)) (Below.refl _ _) (fun _ => rfl)
    (fun pre W => Blk W (w1.heap.size + 1) 24 (voteC (bestV own pre)) ∧ (Below w.heap.size w W ∧ W0.heap.size ≤ W.heap.size))
    (fun _ _ _ => False)
    (OwnFrom.and (Own.from (Blk.own _ _ _) _) (OwnFrom.and (ownFrom_below (Nat.le_refl _) (by omega)) (fun s X Y row h hg hr => Nat.le_trans h hg.size)))
    (fun _ _ _ _ _ hs _ _ => hs)
    ⟨hb2, hB0, Nat.le_refl _⟩
    (fun x a' W => ∃ Bx, W0.heap.size ≤ Bx ∧ Blk W Bx 24 (voteC x) ∧ a' = { tmps := #[Value.int IntKind.i64 ↑n, Value.slice A ls.length c, Value.string own, undef, undef, undef, Value.string { data := #[] }, Value.int IntKind.i64 0, Value.pointer (some { block := w1.heap.size + 1, off := 0 }), Value.pointer (some ⟨Bx, 0, none⟩), Value.bool false, Value.int IntKind.i64 ↑n, Value.bool false, Value.bool false, Value.int IntKind.i64 ↑n, Value.bool false, Value.bool false, Value.bool false, Value.slice A ls.length c, Value.int IntKind.i64 ↑ls.length, Value.int IntKind.i64 ↑n, Value.bool false, Value.bool false, Value.bool false, Value.slice A ls.length c, Value.int IntKind.i64 ↑ls.length, Value.int IntKind.i64 ↑n, Value.int IntKind.i64 (↑n / 2), Value.bool false, Value.bool false, Value.bool false, Value.slice A ls.length c, Value.bool true, Value.bool false, Value.bool false, Value.string own, Value.slice (some { block := w1.heap.size, off := 0 }) 1 1, Value.bool true, Value.bool false, Value.bool false, Value.string own, Value.agg #[Value.int IntKind.u64 0, Value.int IntKind.u64 0, Value.string own], Value.slice A ls.length c, Value.func (Fn.func 32) #[] #[Value.pointer (some { block := w1.heap.size + 1 + 1, off := 0 })], voteE x, undef, undef, undef, undef, undef, undef, undef, undef], defers := [] })
    (fun x a' => by
      rintro s X Y row ⟨Bx, hle, hbx, ha⟩ hg hr
      exact ⟨Bx, hle, Own.from (Blk.own Bx 24 (fun _ : Unit => voteC x)) _ () X Y row hbx hg hr, ha⟩) ?assign ?body ?done ?stop
  case assign =>
    rintro l pre x W K ⟨hb, hB, hsW⟩ hK
    unfold voteE
    gi_wp2
    exact hK _ _ ((KeepsOthers.alloc _ _).from _) ((Keeps.refl _ W).alloc (fun k hk => Nat.lt_of_lt_of_le (rdb_lt (by omega) hC0 k hk) hsW) _) ⟨hb.alloc _, hB.alloc hB.size _, by simp; omega⟩ ⟨W.heap.size, hsW, Blk.new W 24 (voteC x), rfl⟩
  case body =>
    rintro l pre x a' W hl ⟨r, hr⟩ ⟨hb, hB, hsW⟩ ⟨Bx, hBx, hx, rfl⟩ _
    have b0 : W.cell? ⟨w1.heap.size + 1, 0, none⟩ = some (.int .u64 (bestV own pre).f0) := hb.cell 0
    have b1 : W.cell? ⟨w1.heap.size + 1, 1, none⟩ = some (.int .u64 (bestV own pre).f1) := hb.cell 1
    have b2 : W.cell? ⟨w1.heap.size + 1, 2, none⟩ = some (.string (bestV own pre).f2) := hb.cell 2
    have g0 := hb.frozen 0
    have g1 := hb.frozen 1
    have g2 := hb.frozen 2
    have x0 : W.cell? ⟨Bx, 0, none⟩ = some (.int .u64 x.f0) := hx.cell 0
    have x1 : W.cell? ⟨Bx, 1, none⟩ = some (.int .u64 x.f1) := hx.cell 1
    have x2 : W.cell? ⟨Bx, 2, none⟩ = some (.string x.f2) := hx.cell 2
    have hsn := Lib.hid (bestV_snoc own pre x)
    by_cases hgt : (bestV own pre).f1 < x.f1
    · have hd : decide ((bestV own pre).f1 < x.f1) = true := by simpa using hgt
      have HG := Lib.hid hgt; clear hgt
      gi_wp2
      refine ⟨(((KeepsOthers.setCell _ _ _).trans (KeepsOthers.setCell _ _ _)).trans (KeepsOthers.setCell _ _ _)).from _, (((Keeps.refl _ W).setCell (p := ⟨w1.heap.size + 1, 0, none⟩) hNb _).setCell (p := ⟨w1.heap.size + 1, 1, none⟩) hNb _).setCell (p := ⟨w1.heap.size + 1, 2, none⟩) hNb _, ?_,
        ((hB.setCell (p := ⟨w1.heap.size + 1, 0, none⟩) (by show _ ≤ w1.heap.size + 1; have := hb1.size; omega) _).setCell (p := ⟨w1.heap.size + 1, 1, none⟩) (by show _ ≤ w1.heap.size + 1; have := hb1.size; omega) _).setCell (p := ⟨w1.heap.size + 1, 2, none⟩) (by show _ ≤ w1.heap.size + 1; have := hb1.size; omega) _, by simp [World.setCell]; omega⟩
      rw [hsn.out]
      unfold better
      rw [if_pos HG.out]
      exact ((hb.set_ 0 _).set_ 1 _).set_ 2 _
    · have hd : decide ((bestV own pre).f1 < x.f1) = false := by simpa using hgt
      have HG := Lib.hid hgt; clear hgt
      gi_wp2
      refine ⟨(KeepsOthers.refl _).from _, Keeps.refl _ W, ?_, hB, by omega⟩
      rw [hsn.out]
      unfold better
      rw [if_neg (Int.not_lt.2 HG.out)]
      exact hb
  case done =>
    rintro D ys W hD rfl ⟨hb, hB, hsW⟩ hK
    have b2 : W.cell? ⟨w1.heap.size + 1, 2, none⟩ = some (.string (bestV own (castL ls)).f2) := hb.cell 2
    go_wp2
    refine ⟨by simp, .inl ⟨_, _, rfl, run_takeDeferred hK, ?_⟩⟩
    refine ⟨_, results_tmp2 rfl _ _ _, ?_⟩
    exact ⟨rfl, hB.trans (belowK_b (w := W0) (by have := hB0.size; omega) W D _ _ hD hK rfl rfl)⟩
  case stop =>
    rintro D c pre W _ _ h _
    exact h.elim
theorem Proposal.group (n : Int) (A : Option Addr) (c : Nat) (ls : List S24) (own : ByteArray) (w : World) (_hl : ls.length ≤ 140737488351232) (h : n < 1 ∨ 16 < n ∨ n < ls.length ∨ (ls.length : Int) ≤ n / 2) :
    Calls Try.prog 22 #[.int .i64 n, .slice A ls.length c, .string own] w fun e w' => e = .returned (.tuple #[.string ⟨#[]⟩, .int .i64 81]) ∧ Below w.heap.size w w' := by
  by_cases h1 : n < 1
  · have d1 : decide (n < 1) = true := by simpa using h1
    go_enter Try.func22, Try.ntmps22
    go_wp2
    go_ret2
    exact ⟨rfl, Below.refl _ _⟩
  · have d1 : decide (n < 1) = false := by simpa using h1
    obtain ⟨m, rfl⟩ := Int.eq_ofNat_of_zero_le (show 0 ≤ n by omega)
    by_cases h2 : 16 < m
    · have d2 : decide (16 < (m : Int)) = true := by simp; omega
      go_enter Try.func22, Try.ntmps22
      go_wp2
      go_ret2
      exact ⟨rfl, Below.refl _ _⟩
    · have d2 : decide (16 < (m : Int)) = false := by simp; omega
      by_cases h3 : m < ls.length
      · have d3 : decide ((m : Int) < (ls.length : Int)) = true := by simp; omega
        go_enter Try.func22, Try.ntmps22
        go_wp2
        go_ret2
        exact ⟨rfl, Below.refl _ _⟩
      · have d3 : decide ((m : Int) < (ls.length : Int)) = false := by simp; omega
        have d4 : decide ((ls.length : Int) ≤ (m : Int) / 2) = true := by simp; omega
        go_enter Try.func22, Try.ntmps22
        go_wp2
        go_ret2
        exact ⟨rfl, Below.refl _ _⟩
set_option maxHeartbeats 1000000 in
theorem Proposal.arg (n : Nat) (A : Option Addr) (c : Nat) (ls : List S24) (own : ByteArray) (w : World) (hC : Kd.C k24 w A ls.length ls) (h1 : 1 ≤ n) (h2 : n ≤ 16) (h3 : ls.length ≤ n) (h4 : n / 2 < ls.length) (hr : ls.all rightV = false ∨ ¬ own.size ≤ 4000) :
    Calls Try.prog 22 #[.int .i64 n, .slice A ls.length c, .string own] w fun e w' => e = .returned (.tuple #[.string ⟨#[]⟩, .int .i64 2]) ∧ Below w.heap.size w w' := by
  have d1 : decide ((n : Int) < 1) = false := by simp; omega
  have d2 : decide (16 < (n : Int)) = false := by simp; omega
  have d3 : decide ((n : Int) < (ls.length : Int)) = false := by simp; omega
  have d4 : decide ((ls.length : Int) ≤ (n : Int) / 2) = false := by simp; omega
  have HRR := Lib.hid hr
  by_cases ha : ls.all rightV = true
  · have ho : ¬ own.size ≤ 4000 := by rcases hr with h | h; rw [ha] at h; cases h; exact h
    have d5 : decide (own.size ≤ 4000) = false := by simpa using ho
    clear hr ho
    go_enter Try.func22, Try.ntmps22
    go_wp2_with (first | (go_at_call 26; refine (areRight.below _ _ _ (by omega) _ hC).mono ?_; rintro e w1 ⟨rfl, hb1⟩; have hz1 := hb1.size) | (go_at_call 25; refine (areShort.same _ _ own _ ?hcy).mono ?_; (case hcy => (first | go_cell | (simp [go_sem]; done))); rintro e w' ⟨rfl, rfl⟩))
    go_ret2
    exact ⟨rfl, hb1.alloc hb1.size _⟩
  · have ha' : ls.all rightV = false := by simpa using ha
    clear hr ha
    go_enter Try.func22, Try.ntmps22
    go_wp2_with (first | (go_at_call 26; refine (areRight.below _ _ _ (by omega) _ hC).mono ?_; rintro e w1 ⟨rfl, hb1⟩; have hz1 := hb1.size))
    go_ret2
    exact ⟨rfl, hb1⟩
theorem Proposal.below (n : Int) (A : Option Addr) (c : Nat) (ls : List S24) (own : ByteArray) (w : World) (hl : ls.length ≤ 140737488351232) (hC : Kd.C k24 w A ls.length ls) :
    Calls Try.prog 22 #[.int .i64 n, .slice A ls.length c, .string own] w fun e w' => e = .returned (.tuple #[.string (proposalS n ls own).1, .int .i64 (proposalS n ls own).2]) ∧ Below w.heap.size w w' := by
  unfold proposalS
  by_cases h : n < 1 ∨ 16 < n ∨ n < ls.length ∨ (ls.length : Int) ≤ n / 2
  · rw [if_pos h]; exact Proposal.group n A c ls own w hl h
  · rw [if_neg h]
    obtain ⟨m, rfl⟩ := Int.eq_ofNat_of_zero_le (show 0 ≤ n by omega)
    by_cases h2 : ls.all rightV = false ∨ ¬ own.size ≤ 4000
    · rw [if_pos h2]; exact Proposal.arg m A c ls own w hC (by omega) (by omega) (by omega) (by omega) h2
    · rw [if_neg h2]; exact Proposal.yes m A c ls own w hC (by omega) (by omega) (by omega) (by omega) (by simpa using fun h => h2 (.inl h)) (Classical.byContradiction fun h => h2 (.inr h))
end Go.Proofs.Ytnllilpbgenjbaa.G
