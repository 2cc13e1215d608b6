/- What is on its way: Clone, All, Take, Drop, Copy. -/
import Derived.Test.YthmeakkpmielmaaFliA
import Derived.Lib.LazyBuf
namespace Go.Proofs.Ythmeakkpmielmaa.G
open Go.RowKit Go.Proofs.YthmeakkpmielmaaW.PrintWords Go.Proofs.Ythmeakkpmielmaa.P
set_option linter.unusedVariables false
set_option linter.unusedSimpArgs false

theorem eql_nil (W : World) (a : Option Addr) (l c : Nat) : (binOp .eql 29 (.slice a l c) (.slice none 0 0)).run Try.prog W = .ok (.bool a.isNone) W := by
  exact Go.run_eql_slice_nil W _ _ a l c und_notes
theorem grown_new {A B : World} {row : Option Nat} (h : A.grownBy B row) (p : Addr) (hp : A.heap.size ≤ p.block) (u : Value) : A.grownBy (B.setCell p u) row :=
  ⟨h.os, h.tape, h.output, by simp [World.setCell]; exact h.size, fun k hk hne => (Below.heap_setCell B p u k (by omega)).trans (h.block k hk hne)⟩
/-- An empty row that is not nil. -/
theorem R_made0 (w : World) : Kd.R k35 35 (w.alloc (.cells #[] 35)) w.heap.size (fun _ => True) (.slice (some ⟨w.heap.size, 0, none⟩) 0 0) [] :=
  ⟨fun _ _ => trivial, [], ⟨by simp, .inr ⟨w.heap.size, 0, #[], rfl, Nat.le_refl _, World.alloc_heap_new w _, Nat.zero_le _, Nat.zero_le _, by simp, by simp⟩⟩, Reps.none _ _⟩
set_option maxRecDepth 100000 in
set_option maxHeartbeats 4000000 in
theorem Clone.is (A : Option Addr) (c : Nat) (l : List S35) (w : World) (hC : Kd.C k35 w A l.length l) (hl : l.length ≤ 1000000) :
    Calls Try.prog 25 #[.slice A l.length c] w fun e w' => ∃ v, e = .returned v ∧ Kd.R k35 35 w' w.heap.size (fun _ => True) v l ∧ Below w.heap.size w w' := by
  cases A with
  | none =>
    have hl0 : l = [] := by
      rcases Nat.eq_zero_or_pos l.length with h0 | h0
      · exact List.length_eq_zero_iff.1 h0
      · obtain ⟨ad, e, _⟩ := hC.2.2 h0
        cases e
    subst hl0
    have hq := eql_nil w none 0 c
    go_enter Try.func25, Try.ntmps25
    go_wp2
    go_ret
    exact ⟨_, rfl, Kd.R_nil _ _ _ _ _, Below.refl _ _⟩
  | some ad =>
    have hb0 : Below w.heap.size w (w.alloc (.cells #[] 35)) := (Below.refl _ w).alloc (Nat.le_refl _) _
    obtain ⟨v1, W1, hr1, hR1, hg1⟩ := append_own_R (P := Try.prog) (d := k35) 29 29 35 _ 32 und_notes note_info rfl (by decide) plain_note (R_made0 w) (Kd.C_below hC hb0) (c := c) (fun e => by cases e) (by simp; omega) (by omega) hb0.size
    have hB1 : Below w.heap.size w W1 := below_grown' hb0 hb0.size hg1 (own_block_ge (R_made0 w))
    have hr1' : ∀ ty, (Builtin.append_ #[29, 29] ty #[.slice (some ⟨w.heap.size, 0, none⟩) 0 0, .slice (some ad) l.length c]).run Try.prog (w.alloc (.cells #[] 35)) = .ok v1 W1 := fun ty => hr1
    rw [List.nil_append] at hR1
    have HR1 := Lib.hid hr1'
    have hq := eql_nil w (some ad) l.length c
    clear hr1 hr1'
    go_enter Try.func25, Try.ntmps25
    go_wp2_with (at_builtin; refine wpList_append_run rfl rfl rfl rfl HR1.out ?_)
    go_ret
    exact ⟨_, rfl, hR1, hB1⟩
set_option maxRecDepth 100000 in
set_option maxHeartbeats 4000000 in
theorem All.is (g : Nat) (s : Fl) (w : World) (h : FlS w g s) (hl : s.l.length ≤ 1000) :
    Calls Try.prog 13 #[.pointer (some ⟨g, 0, none⟩)] w fun e w' => ∃ v, e = .returned v ∧ Kd.R k35 35 w' w.heap.size (fun _ => True) v s.l ∧ Below w.heap.size w w' := by
  obtain ⟨v, h1, hR⟩ := h
  obtain ⟨A, c, rfl, h2, h4⟩ := Kd.R_reads hR
  have c1 : w.cell? ⟨g, 1, none⟩ = some (.slice A s.l.length c) := h1.cell 1
  have HC := Lib.hid (Clone.is A c s.l w h4 (by omega))
  go_enter Try.func13, Try.ntmps13
  go_wp2_with (go_at_call 25; (with_reducible refine HC.out.mono ?_); rintro e w1 ⟨v, rfl, hR1, hb1⟩)
  go_ret
  exact ⟨_, rfl, hR1, hb1⟩
def takeF (s : Fl) (at_ : Int) : Fl × S35 × Int :=
  if h : 0 ≤ at_ ∧ at_ < s.l.length then (⟨s.n, s.l.take at_.toNat ++ s.l.drop (at_.toNat + 1)⟩, s.l[at_.toNat], 0) else (s, z35, 2)
theorem takeF_in (s : Fl) (k : Nat) (h : k < s.l.length) : takeF s (k : Int) = (⟨s.n, s.l.take k ++ s.l.drop (k + 1)⟩, s.l[k], 0) := by
  unfold takeF
  rw [dif_pos ⟨by omega, by omega⟩]
  rfl
theorem takeF_out (s : Fl) (at_ : Int) (h : ¬ (0 ≤ at_ ∧ at_ < s.l.length)) : takeF s at_ = (s, z35, 2) := dif_neg h
set_option maxRecDepth 100000 in
set_option maxHeartbeats 4000000 in
theorem Take.out (g : Nat) (s : Fl) (at_ : Int) (w : World) (h : FlS w g s) (ho : ¬ (0 ≤ at_ ∧ at_ < s.l.length)) :
    Calls Try.prog 17 #[.pointer (some ⟨g, 0, none⟩), .int .i64 at_] w fun e w' => e = .returned (.tuple #[noteV z35, .int .i64 2]) ∧ FlS w' g s ∧ w.grownBy w' (some g) := by
  have hc : chk s at_ = 2 := by unfold chk; rw [if_pos (by omega)]
  have hk := check.is g s at_ (w.alloc (.cells #[.int .u32 0, .int .i64 0, .string ⟨#[]⟩] 35)) (h.below ((Below.refl _ w).alloc (Nat.le_refl _) _))
  rw [hc] at hk
  have HK := Lib.hid hk; clear hk
  have HC := Lib.hid hc; clear hc
  have HO := Lib.hid ho; clear ho
  go_enter Try.func17, Try.ntmps17
  go_wp2_with (go_at_call 26; (refine HK.out.mono ?_); rintro e w1 ⟨rfl, rfl⟩)
  refine bodyPost_ret (v := .tuple #[noteV z35, .int .i64 2]) (by simp [results, Try.results17, go_sem, noteV, z35]) rfl ⟨rfl, h.below ((Below.refl _ w).alloc (Nat.le_refl _) _), grown_alloc (grown_refl w _) _⟩
attribute [-go_sem] run_slice_l
set_option maxRecDepth 100000 in
set_option maxHeartbeats 4000000 in
theorem Take.in_ (g : Nat) (s : Fl) (k : Nat) (w : World) (h : FlS w g s) (hk : k < s.l.length) (hl : s.l.length ≤ 1000) :
    Calls Try.prog 17 #[.pointer (some ⟨g, 0, none⟩), .int .i64 k] w fun e w' => e = .returned (.tuple #[noteV s.l[k], .int .i64 0]) ∧ FlS w' g ⟨s.n, s.l.take k ++ s.l.drop (k + 1)⟩ ∧ w.grownBy w' (some g) := by
  have h0 := h
  obtain ⟨v, h1, hR⟩ := h
  obtain ⟨A, c, rfl, h2, h4⟩ := Kd.R_reads hR
  have hc : chk s k = 0 := by unfold chk; rw [if_neg (by omega)]
  have hck := check.is g s k (w.alloc (.cells #[.int .u32 0, .int .i64 0, .string ⟨#[]⟩] 35)) (h0.below ((Below.refl _ w).alloc (Nat.le_refl _) _))
  rw [hc] at hck
  have l1 := h1.lt
  have d1 : (w.alloc (.cells #[.int .u32 0, .int .i64 0, .string ⟨#[]⟩] 35)).cell? ⟨g, 1, none⟩ = some (.slice A s.l.length c) := (h1.alloc _).cell 1
  have hC1 := Kd.C_alloc h4 (.cells #[.int .u32 0, .int .i64 0, .string ⟨#[]⟩] 35)
  obtain ⟨ad, hAd, e0, e1, e2⟩ := at_T35 hC1 (k : Int) (by omega) (by omega)
  rw [rd_get_35 s.l k hk] at e0 e1 e2
  simp only [Int.toNat_natCast] at e0 e1 e2
  subst hAd
  have x0 : Blk w g 61 #[.int .u32 s.n, .slice (some ad) s.l.length c] := h1
  obtain ⟨x, hx⟩ : ∃ x, s.l[k] = x := ⟨_, rfl⟩
  rw [hx] at e0 e1 e2 ⊢
  obtain ⟨W1, hW1⟩ : ∃ W1, w.alloc (.cells #[.int .u32 0, .int .i64 0, .string ⟨#[]⟩] 35) = W1 := ⟨_, rfl⟩
  have b1 : Below w.heap.size w W1 := by rw [← hW1]; exact (Below.refl _ w).alloc (Nat.le_refl _) _
  have z1 : W1.heap.size = w.heap.size + 1 := by rw [← hW1]; simp
  have k1 : Blk W1 w.heap.size 35 #[.int .u32 0, .int .i64 0, .string ⟨#[]⟩] := by rw [← hW1]; exact Blk.new _ _ _
  rw [hW1] at d1 hC1 e0 e1 e2 hck
  obtain ⟨W2, hW2⟩ : ∃ W2, W1.alloc (.cells #[.int .u32 x.f0, .int .i64 x.f1, .string x.f2] 35) = W2 := ⟨_, rfl⟩
  have b2 : Below w.heap.size w W2 := by rw [← hW2]; exact b1.alloc (by omega) _
  have z2 : W2.heap.size = w.heap.size + 2 := by rw [← hW2]; simp; omega
  have y1 : Blk W2 (w.heap.size + 1) 35 #[.int .u32 x.f0, .int .i64 x.f1, .string x.f2] := by rw [← hW2, ← z1]; exact Blk.new _ _ _
  have k2 : Blk W2 w.heap.size 35 #[.int .u32 0, .int .i64 0, .string ⟨#[]⟩] := by rw [← hW2]; exact k1.alloc _
  have g2 : Blk W2 g 61 #[.int .u32 s.n, .slice (some ad) s.l.length c] := x0.below b2 l1
  have hC2 := Kd.C_below h4 b2
  have m1 : W2.cell? ⟨g, 1, none⟩ = some (.slice (some ad) s.l.length c) := g2.cell 1
  have s1 := slice_clip (some ad) s.l.length c k (by omega)
  have s2 := slice_rest (some ad) s.l.length c (k + 1) (by omega)
  rw [Int.natCast_add, Int.natCast_one] at s2
  rw [show (k : Int) + 1 = IntKind.i64.wrap ((k : Int) + 1) from (IntWalk.i64_in ((k : Int) + 1) (by omega)).symm] at s2
  obtain ⟨A2, hA2, hC2d⟩ : ∃ A2, (if c = k + 1 then some ad else (some ad).map (·.add ((k + 1) * 3))) = A2 ∧ Kd.C k35 W2 A2 (s.l.length - (k + 1)) (s.l.drop (k + 1)) := by
    refine ⟨_, rfl, ?_⟩
    split
    · exact ⟨by rw [List.length_drop], by omega, fun h => by omega⟩
    · exact C_drop hC2 (k + 1) (by omega)
  rw [hA2] at s2
  have hne2 : A2 = none → c - (k + 1) = 0 := by rw [← hA2]; split <;> (intro h; cases h)
  have hl1 : (s.l.take k).length = k := by rw [List.length_take]; omega
  have hl2 : (s.l.drop (k + 1)).length = s.l.length - (k + 1) := List.length_drop
  have hCt := C_take hC2 k (by omega)
  have hb3 : Below W2.heap.size W2 (W2.alloc (.cells #[.slice (some ad) k k, .slice A2 (s.l.length - (k + 1)) (c - (k + 1))] 29)).drew := ((Below.refl _ W2).alloc (Nat.le_refl _) _).drew
  have hcat := Concat.two (some ad) A2 k (c - (k + 1)) (s.l.take k) (s.l.drop (k + 1)) W2.heap.size 2 (W2.alloc (.cells #[.slice (some ad) k k, .slice A2 (s.l.length - (k + 1)) (c - (k + 1))] 29)).drew
    (by rw [hl1]; exact Kd.C_below hCt hb3) (by rw [hl2]; exact Kd.C_below hC2d hb3) (fun e => by cases e) hne2
    (by rw [hl1]; exact (Blk.new W2 29 _).cell 0) (by rw [hl2]; exact (Blk.new W2 29 _).cell 1) (by omega) (by omega)
  have hgW3 : ∀ w3, Below (W2.alloc (.cells #[.slice (some ad) k k, .slice A2 (s.l.length - (k + 1)) (c - (k + 1))] 29)).drew.heap.size (W2.alloc (.cells #[.slice (some ad) k k, .slice A2 (s.l.length - (k + 1)) (c - (k + 1))] 29)).drew w3 → Below W2.heap.size W2 w3 := fun w3 h => hb3.trans (h.mono hb3.size)
  have ma : (W2.alloc (.cells #[.slice (some ad) k k, .slice A2 (s.l.length - (k + 1)) (c - (k + 1))] 29)).drew.cell? ⟨g, 1, none⟩ = some (.slice (some ad) s.l.length c) := (g2.callee hb3).cell 1
  obtain ⟨L, hL⟩ : ∃ L, s.l.take k ++ s.l.drop (k + 1) = L := ⟨_, rfl⟩
  rw [hL] at hcat ⊢
  rw [z2] at hcat
  have HCAT := Lib.hid hcat; clear hcat
  have HGW := Lib.hid hgW3; clear hgW3
  have HW2 := Lib.hid hW2
  have HW1 := Lib.hid hW1
  have HX := Lib.hid hx
  have HK := Lib.hid hck; clear hck
  have HC := Lib.hid hc; clear hc
  clear hW2 hW1 hx hA2 hL hl1 hl2
  go_enter Try.func17, Try.ntmps17
  go_wp2_with (fail)
  rw [HW1.out]
  refine HK.out.mono ?_
  rintro e w1 ⟨rfl, rfl⟩
  go_wp2_with (fail)
  rw [HW2.out]
  go_region_with (first | (go_at_call 27; refine HCAT.out.mono ?_; rintro e w3 ⟨v3, rfl, hR3, hb3'⟩; obtain ⟨A3, c3, rfl, hlc3, hC3⟩ := Kd.R_reads hR3; have hb4 := HGW.out _ hb3'; have g3 := g2.callee hb4; have m3 : w3.cell? ⟨g, 1, none⟩ = some (.slice (some ad) s.l.length c) := g3.cell 1; have f3 := g3.frozen 1; have y3 := y1.callee hb4; have k3 := k2.callee hb4))
  all_goals
    have hgw : g ≠ w.heap.size := by omega
    have hgw1 : w.heap.size + 1 ≠ g := by omega
    have y4 := y3.far (p := ⟨g, 1, none⟩) hgw1 (.slice A3 L.length c3)
    have k4 := k3.far (p := ⟨g, 1, none⟩) (Ne.symm hgw) (.slice A3 L.length c3)
    have g4 := g3.set_ 1 (.slice A3 L.length c3)
    have r4 : Kd.R k35 35 w3 _ (fun k => w.heap.size + 2 ≤ k) (.slice A3 L.length c3) L := Kd.R_mono (Kd.R_bound hR3) (fun k hk => by have h9 := hk.2.1; have h8 := hb3.size; simp at h9; omega)
    have q0 : (w3.setCell ⟨g, 1, none⟩ (.slice A3 L.length c3)).cell? ⟨w.heap.size + 1, 0, none⟩ = some (.int .u32 x.f0) := y4.cell 0
    have q1 : (w3.setCell ⟨g, 1, none⟩ (.slice A3 L.length c3)).cell? ⟨w.heap.size + 1, 1, none⟩ = some (.int .i64 x.f1) := y4.cell 1
    have q2 : (w3.setCell ⟨g, 1, none⟩ (.slice A3 L.length c3)).cell? ⟨w.heap.size + 1, 2, none⟩ = some (.string x.f2) := y4.cell 2
    have t0 : (w3.setCell ⟨g, 1, none⟩ (.slice A3 L.length c3)).cell? ⟨w.heap.size, 0, none⟩ = some (.int .u32 0) := k4.cell 0
    have t1 : (w3.setCell ⟨g, 1, none⟩ (.slice A3 L.length c3)).cell? ⟨w.heap.size, 1, none⟩ = some (.int .i64 0) := k4.cell 1
    have t2 : (w3.setCell ⟨g, 1, none⟩ (.slice A3 L.length c3)).cell? ⟨w.heap.size, 2, none⟩ = some (.string ⟨#[]⟩) := k4.cell 2
    have u0 := k4.frozen 0
    have u1 := k4.frozen 1
    have u2 := k4.frozen 2
    have r5 := Kd.R_far r4 (p := ⟨g, 1, none⟩) (fun k hk => by show k ≠ g; omega) (.slice A3 L.length c3)
    have B4 : w.grownBy (w3.setCell ⟨g, 1, none⟩ (.slice A3 L.length c3)) (some g) := grown_trans (grown_of (b2.trans (hb4.mono (by omega))) _) (grown_set w3 ⟨g, 1, none⟩ _)
    obtain ⟨W4, hW4⟩ : ∃ W4, w3.setCell ⟨g, 1, none⟩ (.slice A3 L.length c3) = W4 := ⟨_, rfl⟩
    rw [hW4] at y4 k4 g4 q0 q1 q2 t0 t1 t2 u0 u1 u2 r5 B4 ⊢
    clear hW4
    go_wp2
    have k5 : Blk _ w.heap.size 35 #[.int .u32 x.f0, .int .i64 x.f1, .string x.f2] := ((k4.set_ 0 (.int .u32 x.f0)).set_ 1 (.int .i64 x.f1)).set_ 2 (.string x.f2)
    have g5 := ((g4.far (p := ⟨w.heap.size, 0, none⟩) hgw (.int .u32 x.f0)).far (p := ⟨w.heap.size, 1, none⟩) hgw (.int .i64 x.f1)).far (p := ⟨w.heap.size, 2, none⟩) hgw (.string x.f2)
    have r6 := Kd.R_far (Kd.R_far (Kd.R_far r5 (p := ⟨w.heap.size, 0, none⟩) (fun k hk => by show k ≠ w.heap.size; omega) (.int .u32 x.f0)) (p := ⟨w.heap.size, 1, none⟩) (fun k hk => by show k ≠ w.heap.size; omega) (.int .i64 x.f1)) (p := ⟨w.heap.size, 2, none⟩) (fun k hk => by show k ≠ w.heap.size; omega) (.string x.f2)
    have B5 := grown_new (grown_new (grown_new B4 ⟨w.heap.size, 0, none⟩ (Nat.le_refl _) (.int .u32 x.f0)) ⟨w.heap.size, 1, none⟩ (Nat.le_refl _) (.int .i64 x.f1)) ⟨w.heap.size, 2, none⟩ (Nat.le_refl _) (.string x.f2)
    obtain ⟨W5, hW5⟩ : ∃ W5, ((W4.setCell ⟨w.heap.size, 0, none⟩ (.int .u32 x.f0)).setCell ⟨w.heap.size, 1, none⟩ (.int .i64 x.f1)).setCell ⟨w.heap.size, 2, none⟩ (.string x.f2) = W5 := ⟨_, rfl⟩
    rw [hW5] at k5 g5 r6 B5 ⊢
    have j0 : W5.cell? ⟨w.heap.size, 0, none⟩ = some (.int .u32 x.f0) := k5.cell 0
    have j1 : W5.cell? ⟨w.heap.size, 1, none⟩ = some (.int .i64 x.f1) := k5.cell 1
    have j2 : W5.cell? ⟨w.heap.size, 2, none⟩ = some (.string x.f2) := k5.cell 2
    refine bodyPost_ret (v := .tuple #[noteV x, .int .i64 0]) (by simp [results, Try.results17, go_sem, noteV, j0, j1, j2]) rfl ?_
    exact ⟨rfl, ⟨_, g5, RowN.of (Kd.R_mono r6 (fun _ _ => trivial))⟩, B5⟩
theorem Take.is (g : Nat) (s : Fl) (at_ : Int) (w : World) (h : FlS w g s) (hl : s.l.length ≤ 1000) :
    Calls Try.prog 17 #[.pointer (some ⟨g, 0, none⟩), .int .i64 at_] w fun e w' => e = .returned (.tuple #[noteV (takeF s at_).2.1, .int .i64 (takeF s at_).2.2]) ∧ FlS w' g (takeF s at_).1 ∧ w.grownBy w' (some g) := by
  by_cases ho : 0 ≤ at_ ∧ at_ < s.l.length
  · obtain ⟨k, rfl⟩ := Int.eq_ofNat_of_zero_le ho.1
    have hk : k < s.l.length := by omega
    rw [takeF_in s k hk]
    exact Take.in_ g s k w h hk hl
  · rw [takeF_out s at_ ho]
    exact Take.out g s at_ w h ho
def dropF (s : Fl) (at_ : Int) : Fl × Int := ((takeF s at_).1, (takeF s at_).2.2)
set_option maxRecDepth 100000 in
set_option maxHeartbeats 4000000 in
theorem Drop.is (g : Nat) (s : Fl) (at_ : Int) (w : World) (h : FlS w g s) (hl : s.l.length ≤ 1000) :
    Calls Try.prog 16 #[.pointer (some ⟨g, 0, none⟩), .int .i64 at_] w fun e w' => e = .returned (.int .i64 (dropF s at_).2) ∧ FlS w' g (dropF s at_).1 ∧ w.grownBy w' (some g) := by
  have HT := Lib.hid (Take.is g s at_ w h hl)
  unfold noteV at HT
  go_enter Try.func16, Try.ntmps16
  go_wp2_with (go_at_call 17; (refine HT.out.mono ?_); rintro e w1 ⟨rfl, hs1, hg1⟩)
  go_ret
  exact ⟨rfl, hs1.below ((Below.refl _ w1).alloc (Nat.le_refl _) _), grown_alloc hg1 _⟩
def copyF (s : Fl) (at_ : Int) : Fl × Int × Int :=
  if h : 0 ≤ at_ ∧ at_ < s.l.length then sendF s (s.l[at_.toNat]).f1 (s.l[at_.toNat]).f2 else (s, 0, 2)
theorem copyF_in (s : Fl) (k : Nat) (h : k < s.l.length) : copyF s (k : Int) = sendF s s.l[k].f1 s.l[k].f2 := by
  unfold copyF
  rw [dif_pos ⟨by omega, by omega⟩]
  rfl
theorem copyF_out (s : Fl) (at_ : Int) (h : ¬ (0 ≤ at_ ∧ at_ < s.l.length)) : copyF s at_ = (s, 0, 2) := dif_neg h
set_option maxRecDepth 100000 in
set_option maxHeartbeats 4000000 in
theorem Copy.is (g : Nat) (s : Fl) (at_ : Int) (w : World) (h : FlS w g s) (hl : s.l.length ≤ 1000) :
    Calls Try.prog 14 #[.pointer (some ⟨g, 0, none⟩), .int .i64 at_] w fun e w' => e = .returned (.tuple #[.int .u32 (copyF s at_).2.1, .int .i64 (copyF s at_).2.2]) ∧ FlS w' g (copyF s at_).1 ∧ w.grownBy w' (some g) := by
  by_cases ho : 0 ≤ at_ ∧ at_ < s.l.length
  · obtain ⟨k, rfl⟩ := Int.eq_ofNat_of_zero_le ho.1
    have hk : k < s.l.length := by omega
    have hc : chk s k = 0 := by unfold chk; rw [if_neg (by omega)]
    have hck := check.is g s k w h
    rw [hc] at hck
    rw [copyF_in s k hk]
    have h0 := h
    obtain ⟨v, h1, hR⟩ := h
    obtain ⟨A, c, rfl, h2, h4⟩ := Kd.R_reads hR
    have d1 : w.cell? ⟨g, 1, none⟩ = some (.slice A s.l.length c) := h1.cell 1
    obtain ⟨ad, hAd, e0, e1, e2⟩ := at_T35 h4 (k : Int) (by omega) (by omega)
    rw [rd_get_35 s.l k hk] at e0 e1 e2
    simp only [Int.toNat_natCast] at e0 e1 e2
    subst hAd
    obtain ⟨x, hx⟩ : ∃ x, s.l[k] = x := ⟨_, rfl⟩
    rw [hx] at e0 e1 e2 ⊢
    have hs := Send.is g s x.f1 x.f2 w.drew (show FlS w.drew g s from h0) hl
    have HS := Lib.hid hs; clear hs
    have HK := Lib.hid hck; clear hck
    have HC := Lib.hid hc; clear hc
    have HX := Lib.hid hx; clear hx
    go_enter Try.func14, Try.ntmps14
    go_wp2_with (go_at_call 26; (refine HK.out.mono ?_); rintro e w1 ⟨rfl, rfl⟩)
    go_region_with (first | (go_at_call 12; (refine HS.out.mono ?_); rintro e w2 ⟨rfl, hs2, hg2⟩))
    all_goals
      go_wp2
      go_ret2
      exact ⟨rfl, hs2, ⟨hg2.os, hg2.tape, hg2.output, hg2.size, hg2.block⟩⟩
  · have hc : chk s at_ = 2 := by unfold chk; rw [if_pos (by omega)]
    have hck := check.is g s at_ w h
    rw [hc] at hck
    rw [copyF_out s at_ ho]
    have HK := Lib.hid hck; clear hck
    have HC := Lib.hid hc; clear hc
    have HO := Lib.hid ho; clear ho
    go_enter Try.func14, Try.ntmps14
    go_wp2_with (go_at_call 26; (refine HK.out.mono ?_); rintro e w1 ⟨rfl, rfl⟩)
    go_ret2
    exact ⟨rfl, h, grown_refl _ _⟩
end Go.Proofs.Ythmeakkpmielmaa.G
