/- What is on its way: New, next, adds, check, Send, Take, Drop, Copy, Hurt, Oldest, All. -/
import Derived.WalkKit
import Derived.Handy
import Derived.Lib.Hide
import Derived.Deep.RegionHeld3
import Derived.Deep.QuietTactic
import Derived.Deep.RegionLaw
import Derived.Deep.RegionWith
import Derived.BigQuiet
import Derived.IntWalk
import Derived.Test.YthmeakkpmielmaaProg
import Derived.Test.YthmeakkpmielmaaCat
import Derived.Test.YthmeakkpmielmaaCrcG
namespace Go.Proofs.Ythmeakkpmielmaa.G
open Go.RowKit Go.Proofs.YthmeakkpmielmaaW.PrintWords Go.Proofs.Ythmeakkpmielmaa.P
set_option linter.unusedVariables false
set_option linter.unusedSimpArgs false

/-- A flight: the last number, what is on its way. -/
structure Fl where
  n : Int
  l : List S35
/-- A row of notes of the program's own. -/
def RowN (W : World) (v : Value) (l : List S35) : Prop := Kd.R k35 35 W 0 (fun _ => True) v l
theorem RowN.below {W W' : World} {v : Value} {l : List S35} (h : RowN W v l) (hb : Below W.heap.size W W') : RowN W' v l := Kd.R_below h hb
theorem RowN.nil (W : World) : RowN W (.slice none 0 0) [] := Kd.R_nil _ _ _ _ _
theorem RowN.of {W : World} {base : Nat} {v : Value} {l : List S35} (h : Kd.R k35 35 W base (fun _ => True) v l) : RowN W v l := Kd.R_lower h (Nat.zero_le _)
/-- Over writes into one block of another type. -/
theorem RowN.far {W W' : World} {g t : Nat} {cs : Array Value} {v : Value} {l : List S35} (h : RowN W v l) (hs : Blk W g t cs) (ht : 35 ≠ t) (hg : W.grownBy W' (some g)) : RowN W' v l :=
  Kd.R_mono (Kd.R_grown (Kd.R_types h hs (by rintro q (_ | ⟨_, ⟨⟩⟩); exact ht)) hg (fun k hk e => hk.2 (Option.some.inj e))) (fun _ _ => trivial)
/-- Block g is a flight. -/
def FlS (W : World) (g : Nat) (s : Fl) : Prop := ∃ v, Blk W g 61 #[.int .u32 s.n, v] ∧ RowN W v s.l
theorem FlS.lt {W : World} {g : Nat} {s : Fl} (h : FlS W g s) : g < W.heap.size := h.choose_spec.1.lt
theorem FlS.below {W W' : World} {g : Nat} {s : Fl} (h : FlS W g s) (hb : Below W.heap.size W W') : FlS W' g s := by
  obtain ⟨v, h1, h2⟩ := h
  exact ⟨v, h1.callee hb, h2.below hb⟩
theorem RowN.over {W W' : World} {g : Nat} {s : Fl} {v : Value} {l : List S35} (h : RowN W v l) (hs : FlS W g s) (hg : W.grownBy W' (some g)) : RowN W' v l := by
  obtain ⟨_, h1, _⟩ := hs
  exact h.far h1 (by decide) hg
/-- A flight over writes into one block of other types. -/
theorem FlS.far {W W' : World} {g b t : Nat} {s : Fl} {cs : Array Value} (h : FlS W g s) (hb : Blk W b t cs) (ht : 35 ≠ t) (ht2 : 61 ≠ t) (hg : W.grownBy W' (some b)) : FlS W' g s := by
  obtain ⟨v, h1, h2⟩ := h
  refine ⟨v, h1.kept hg (fun e => ?_), h2.far hb ht hg⟩
  cases e
  have h3 := (show W.heap[g]? = _ from h1).symm.trans hb
  simp only [Option.some.injEq, Obj.cells.injEq] at h3
  exact ht2 h3.2.1
theorem FlS.put {W : World} {g : Nat} {n : Int} {u v : Value} {l : List S35} (h : Blk W g 61 #[.int .u32 n, u]) (hR : RowN W v l) : FlS (W.setCell ⟨g, 1, none⟩ v) g ⟨n, l⟩ :=
  ⟨v, h.set_ 1 v, hR.far h (by decide) (grown_set W ⟨g, 1, none⟩ v)⟩
theorem note_info : (Try.prog.info? 35).map (fun i => (i.zero, i.size, i.bytes)) = some (some (.agg #[.int .u32 0, .int .i64 0, .string ⟨#[]⟩]), 3, 32) := by kernel_rfl
theorem und_notes : Try.prog.underlying 29 = some (.slice 35) := by kernel_rfl
theorem elem_notes : Try.prog.underlying 29 = some (.slice (Try.prog.elem 29)) := by kernel_rfl
theorem slice_clip (A : Option Addr) (n c k : Nat) (h : k ≤ c) (w : World) : (Instr.slice 29 (.slice A n c) none (some (.int .i64 (k : Int))) (some (.int .i64 (k : Int)))).run Try.prog w = .ok (.slice A k k) w := by
  rw [run_slice_hm w 29 A n c elem_notes .i64 .i64 (k : Int) (k : Int) (by omega) (by omega) (by omega)]
  have hs : (sizeOf (Try.prog.elem 29)).run Try.prog w = .ok 3 w := by go_simp
  rw [hs]
  simp only [Result.andThen, sliced, Int.toNat_natCast, Nat.zero_mul, Nat.sub_zero]
  congr 2
  split
  · rfl
  · cases A <;> rfl
theorem slice_rest (A : Option Addr) (n c k : Nat) (h : k ≤ n) (w : World) : (Instr.slice 29 (.slice A n c) (some (.int .i64 (k : Int))) none none).run Try.prog w = .ok (.slice (if c = k then A else A.map (·.add (k * 3))) (n - k) (c - k)) w := by
  rw [run_slice_l w 29 A n c elem_notes .i64 (k : Int) (by omega) (by omega)]
  have hs : (sizeOf (Try.prog.elem 29)).run Try.prog w = .ok 3 w := by go_simp
  rw [hs]
  simp only [Result.andThen, sliced, Int.toNat_natCast]
theorem New.is (w : World) : Calls Try.prog 11 #[] w fun e w' => e = .returned (.pointer (some ⟨w.heap.size, 0, none⟩)) ∧ FlS w' w.heap.size ⟨0, []⟩ ∧ Below w.heap.size w w' := by
  go_enter Try.func11, Try.ntmps11
  go_wp2
  go_ret
  exact ⟨rfl, ⟨_, Blk.new w _ _, RowN.nil _⟩, by go_grown⟩
theorem next.is (g : Nat) (t : TypeId) (n : Int) (v : Value) (w : World) (h : Blk w g t #[.int .u32 n, v]) :
    Calls Try.prog 23 #[.pointer (some ⟨g, 0, none⟩)] w fun e w' => e = .returned (.int .u32 (IntKind.u32.wrap (n + 1))) ∧ w.setCell ⟨g, 0, none⟩ (.int .u32 (IntKind.u32.wrap (n + 1))) = w' := by
  have c0 : w.cell? ⟨g, 0, none⟩ = some (.int .u32 n) := h.cell 0
  have f0 := h.frozen 0
  go_enter Try.func23, Try.ntmps23
  go_wp2
  go_ret
  exact ⟨rfl, rfl⟩
set_option maxRecDepth 100000 in
set_option maxHeartbeats 4000000 in
theorem adds.is (g : Nat) (s : Fl) (m : List S35) (B : Option Addr) (cm : Nat) (w : World) (h : FlS w g s) (hm : 0 < m.length) (h63 : s.l.length + m.length ≤ 1000000) (hB : Kd.C k35 w B m.length m) :
    Calls Try.prog 24 #[.pointer (some ⟨g, 0, none⟩), .slice B m.length cm] w fun e w' => e = .returned (.tuple #[]) ∧ FlS w' g ⟨s.n, s.l ++ m⟩ ∧ w.grownBy w' (some g) := by
  obtain ⟨v, h1, hR⟩ := h
  obtain ⟨A, c, rfl, h2, h4⟩ := Kd.R_reads hR
  have c0 : w.cell? ⟨g, 0, none⟩ = some (.int .u32 s.n) := h1.cell 0
  have c1 : w.cell? ⟨g, 1, none⟩ = some (.slice A s.l.length c) := h1.cell 1
  have f1 := h1.frozen 1
  have l1 := h1.lt
  have hcl := slice_clip A s.l.length c s.l.length h2
  obtain ⟨v, W', hr, hR', hb⟩ := append_full_R (P := Try.prog) (d := k35) (W := w.drew) 29 29 35 _ 32 und_notes note_info rfl (fun _ _ _ _ _ h => plain_note.km h) h4 hB (c := cm) hm (by omega) (by omega)
  obtain ⟨A', c', rfl, h2', h4'⟩ := Kd.R_reads hR'
  have x1 : Blk W' g 61 #[.int .u32 s.n, .slice A s.l.length c] := Blk.below (W := w.drew) h1 hb l1
  have HF : FlS (W'.setCell ⟨g, 1, none⟩ (.slice A' (s.l ++ m).length c')) g ⟨s.n, s.l ++ m⟩ := FlS.put x1 (RowN.of hR')
  have HG : w.grownBy (W'.setCell ⟨g, 1, none⟩ (.slice A' (s.l ++ m).length c')) (some g) := grown_trans (grown_of (A := w) (B := W') ⟨hb.os, hb.tape, hb.output, hb.size, hb.block⟩ _) (grown_set W' ⟨g, 1, none⟩ _)
  have d1 : W'.cell? ⟨g, 1, none⟩ = some (.slice A s.l.length c) := x1.cell 1
  have k1 := x1.frozen 1
  have hr' : ∀ ty, (Builtin.append_ #[29, 29] ty #[.slice A s.l.length s.l.length, .slice B m.length cm]).run Try.prog w.drew = .ok (.slice A' (s.l ++ m).length c') W' := fun ty => hr
  have HR := Lib.hid hr'
  rw [List.length_append] at HF HG
  have HX := Lib.hid hR'
  clear hr hr' hR' hR
  go_enter Try.func24, Try.ntmps24
  go_wp2
  go_region_law (refine step_append_run rfl rfl rfl rfl HR.out ?_)
  all_goals
    go_wp2
    go_end0
    exact ⟨rfl, HF, HG⟩
def chk (s : Fl) (at_ : Int) : Int := if at_ < 0 ∨ (s.l.length : Int) ≤ at_ then 2 else 0
set_option maxRecDepth 100000 in
set_option maxHeartbeats 4000000 in
theorem check.is (g : Nat) (s : Fl) (at_ : Int) (w : World) (h : FlS w g s) :
    Calls Try.prog 26 #[.pointer (some ⟨g, 0, none⟩), .int .i64 at_] w fun e w' => e = .returned (.int .i64 (chk s at_)) ∧ w = w' := by
  obtain ⟨v, h1, hR⟩ := h
  obtain ⟨A, c, rfl, h2, h4⟩ := Kd.R_reads hR
  have c1 : w.cell? ⟨g, 1, none⟩ = some (.slice A s.l.length c) := h1.cell 1
  by_cases hn : at_ < 0
  · have hc : chk s at_ = 2 := by unfold chk; rw [if_pos (.inl hn)]
    rw [hc]
    go_enter Try.func26, Try.ntmps26
    go_wp2
    go_ret
    exact ⟨rfl, rfl⟩
  · by_cases hl : (s.l.length : Int) ≤ at_
    · have hc : chk s at_ = 2 := by unfold chk; rw [if_pos (.inr hl)]
      rw [hc]
      go_enter Try.func26, Try.ntmps26
      go_wp2
      go_ret
      exact ⟨rfl, rfl⟩
    · have hc : chk s at_ = 0 := by unfold chk; rw [if_neg (by omega)]
      rw [hc]
      go_enter Try.func26, Try.ntmps26
      go_wp2
      go_ret
      exact ⟨rfl, rfl⟩
def noteV (x : S35) : Value := .agg #[.int .u32 x.f0, .int .i64 x.f1, .string x.f2]
def sendF (s : Fl) (to_ : Int) (t : ByteArray) : Fl × Int × Int :=
  if to_ < 0 ∨ 16 ≤ to_ then (s, 0, 2) else if s.l.length = 1000 then (s, 0, 30) else (⟨IntKind.u32.wrap (s.n + 1), s.l ++ [⟨IntKind.u32.wrap (s.n + 1), to_, t⟩]⟩, IntKind.u32.wrap (s.n + 1), 0)
set_option maxRecDepth 100000 in
set_option maxHeartbeats 4000000 in
theorem Send.is (g : Nat) (s : Fl) (to_ : Int) (t : ByteArray) (w : World) (h : FlS w g s) (hl : s.l.length ≤ 1000) :
    Calls Try.prog 12 #[.pointer (some ⟨g, 0, none⟩), .int .i64 to_, .string t] w fun e w' => e = .returned (.tuple #[.int .u32 (sendF s to_ t).2.1, .int .i64 (sendF s to_ t).2.2]) ∧ FlS w' g (sendF s to_ t).1 ∧ w.grownBy w' (some g) := by
  have h0 := h
  obtain ⟨v, h1, hR⟩ := h
  obtain ⟨A, c, rfl, h2, h4⟩ := Kd.R_reads hR
  have c1 : w.cell? ⟨g, 1, none⟩ = some (.slice A s.l.length c) := h1.cell 1
  by_cases hn : to_ < 0
  · have hc : sendF s to_ t = (s, 0, 2) := by unfold sendF; rw [if_pos (.inl hn)]
    rw [hc]
    go_enter Try.func12, Try.ntmps12
    go_wp2
    go_ret2
    exact ⟨rfl, h0, grown_refl _ _⟩
  · by_cases hm : 16 ≤ to_
    · have hc : sendF s to_ t = (s, 0, 2) := by unfold sendF; rw [if_pos (.inr hm)]
      rw [hc]
      go_enter Try.func12, Try.ntmps12
      go_wp2
      go_ret2
      exact ⟨rfl, h0, grown_refl _ _⟩
    · by_cases hf : s.l.length = 1000
      · have hc : sendF s to_ t = (s, 0, 30) := by unfold sendF; rw [if_neg (by omega), if_pos hf]
        rw [hc]
        rw [hf] at c1
        go_enter Try.func12, Try.ntmps12
        go_wp2
        go_ret2
        exact ⟨rfl, h0, grown_refl _ _⟩
      · obtain ⟨n, hN⟩ : ∃ n, IntKind.u32.wrap (s.n + 1) = n := ⟨_, rfl⟩
        have hc : sendF s to_ t = (⟨n, s.l ++ [⟨n, to_, t⟩]⟩, n, 0) := by unfold sendF; rw [if_neg (by omega), if_neg hf, hN]
        rw [hc]
        have hne : decide ((s.l.length : Int) = 1000) = false := by simp; omega
        have hnx := next.is g 61 s.n (.slice A s.l.length c) w h1
        rw [hN] at hnx
        have hs1 : FlS (w.setCell ⟨g, 0, none⟩ (.int .u32 n)) g ⟨n, s.l⟩ := ⟨_, h1.set_ 0 _, hR.far h1 (by decide) (grown_set w ⟨g, 0, none⟩ _)⟩
        obtain ⟨W1, hW1⟩ : ∃ W1, w.setCell ⟨g, 0, none⟩ (.int .u32 n) = W1 := ⟨_, rfl⟩
        have hg1 : w.grownBy W1 (some g) := by rw [← hW1]; exact grown_set w ⟨g, 0, none⟩ _
        rw [hW1] at hs1 hnx
        have hx := C_one (d := k35) (W := W1) (x := ⟨n, to_, t⟩) (k35_mk W1 _) 35
        have had := adds.is g ⟨n, s.l⟩ [⟨n, to_, t⟩] _ 1 _ (hs1.below ((Below.refl _ W1).alloc (Nat.le_refl _) _)) (by simp) (by simp; omega) hx
        have HN := Lib.hid hnx; clear hnx
        have HA := Lib.hid had; clear had
        have HW := Lib.hid hW1; clear hW1
        have HC := Lib.hid hc; clear hc
        have HX := Lib.hid hx; clear hx
        have HNN := Lib.hid hN; clear hN
        go_enter Try.func12, Try.ntmps12
        go_wp2_with (first
          | (go_at_call 23; (refine HN.out.mono ?_); rintro e w1 ⟨rfl, rfl⟩)
          | (go_at_call 24; (refine HA.out.mono ?_); rintro e w2 ⟨rfl, hs2, hg2⟩))
        go_ret2
        exact ⟨rfl, hs2, grown_trans (grown_alloc hg1 _) hg2⟩
end Go.Proofs.Ythmeakkpmielmaa.G
