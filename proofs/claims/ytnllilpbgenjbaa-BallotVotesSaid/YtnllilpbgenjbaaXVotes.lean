-- Printed by a program of this session (the kit's print, with contracts of this session's beside it).
import Derived.Test.YtnllilpbgenjbaaPx0
import Derived.Test.YtnllilpbgenjbaaPx1
import Derived.Test.YtnllilpbgenjbaaPx2
import Derived.Test.YtnllilpbgenjbaaPx3
import Derived.Test.YtnllilpbgenjbaaBalG
namespace Go.Proofs.Ytnllilpbgenjbaa.P
open Go.RowKit Go.Proofs.YtnllilpbgenjbaaW.PrintWords Go.Proofs.YtnllilpbgenjbaaW.PrintLast Go.Proofs.YtnllilpbgenjbaaW.PrintMore
attribute [local go_sem] max2_int min2_int max_two min_two max_three min_three max_four min_four   -- for this text's walks alone
set_option linter.unusedVariables false
set_option linter.unusedSimpArgs false

attribute [local go_sem high] eqA24
/-! ### rostrumlaw08_BallotVotes: function 3 -/
def rostrumlaw08_BallotVotes.f (k : Nat) (a0_0 : Int) (a0_1 : Int) (a0_2 : ByteArray) (a1 : Int) (a2 : ByteArray) : Option (Bool) := (rostrumlaw08_shown.f).bind fun t130 => ((rostrumlaw08_cut.f a0_2).bind fun t131 => ((G.ballot_Promise.f a0_0 a0_1 t131 a1).bind fun bt132 => ((rostrumref08_Promise.f k a0_0 a0_1 t131 a1).bind fun bt137 => ((rostrumlaw08_cut.f a2).bind fun t142 => ((G.ballot_Cast.f a0_0 a0_1 t131 a1 t142).bind fun bt143 => ((rostrumlaw08_cut.f a2).bind fun t148 => ((rostrumref08_Cast.f k a0_0 a0_1 t131 a1 t148).bind fun bt149 => (if t130 = true then ((G.ballot_Right.f a0_0 a0_1 t131).bind fun t154 => ((rostrumref08_Right.f a0_0 a0_1 t131).bind fun t155 => (if (t154 == t155) = true then (if (bt132.1 == bt137.1 && (bt132.2.1 == bt137.2.1 && (bt132.2.2.1.toList == bt137.2.2.1.toList))) = true then (if bt132.2.2.2 = bt137.2.2.2 then (if (bt143.1 == bt149.1 && (bt143.2.1 == bt149.2.1 && (bt143.2.2.1.toList == bt149.2.2.1.toList))) = true then (some (bt143.2.2.2 == bt149.2.2.2)) else (some false)) else (some false)) else (some false)) else (some false)))) else (some false)))))))))
theorem rostrumlaw08_BallotVotes.mono : ∀ a0 a1 a2 a3 a4 k, LeO (rostrumlaw08_BallotVotes.f k a0 a1 a2 a3 a4) (rostrumlaw08_BallotVotes.f (k + 1) a0 a1 a2 a3 a4) := by
  intro a0 a1 a2 a3 a4 k
  unfold rostrumlaw08_BallotVotes.f
  repeat' first
      | (with_reducible exact rostrumref08_Cast.mono _ _ _ _ _ _)
      | (with_reducible exact rostrumref08_Promise.mono _ _ _ _ _)
      | (with_reducible exact LeO.refl _)
      | (with_reducible exact LeO.none _)
      | (with_reducible refine LeO.ite ?_ ?_)
      | (with_reducible refine LeO.bind ?_ (fun _ => ?_))
      | exact rostrumref08_Cast.mono _ _ _ _ _ _
      | exact rostrumref08_Promise.mono _ _ _ _ _
      | exact LeO.none _
      | refine LeO.ite ?_ ?_
      | refine LeO.bind ?_ (fun _ => ?_)
def rostrumlaw08_BallotVotes.T5 : Bool × List (List Nat × List Nat) := (true, [([], []), ([], []), ([], []), ([2], [2]), ([0, 1, 3, 3], [0, 1, 3]), ([4], [4]), ([5], [5]), ([5], [5]), ([], []), ([8, 6, 4, 0, 1, 2, 3, 4, 5, 6, 8], [6, 8]), ([7, 9, 0, 1, 2, 3, 4, 5, 6, 7, 8, 9], [7])])
def rostrumlaw08_BallotVotes.B5 : List Nat := [0, 0, 0, 4, 15, 31, 63, 63, 0, 383, 1023]
theorem rostrumlaw08_BallotVotes.tab5 : rtab .any (opsOf Try.f3 5) = rostrumlaw08_BallotVotes.T5 := by kernel_rfl
theorem rostrumlaw08_BallotVotes.bits5 : waitsOk rostrumlaw08_BallotVotes.T5.2 rostrumlaw08_BallotVotes.B5 = true := by kernel_rfl
def rostrumlaw08_BallotVotes.T6 : Bool × List (List Nat × List Nat) := (true, [([], []), ([], []), ([], []), ([2], [2]), ([0, 1, 3, 3], [0, 1, 3]), ([4], [4]), ([5], [5]), ([5], [5]), ([], []), ([8, 6, 4, 0, 1, 2, 3, 4, 5, 6, 8], [6, 8]), ([7, 9, 0, 1, 2, 3, 4, 5, 6, 7, 8, 9], [7])])
def rostrumlaw08_BallotVotes.B6 : List Nat := [0, 0, 0, 4, 15, 31, 63, 63, 0, 383, 1023]
theorem rostrumlaw08_BallotVotes.tab6 : rtab .any (opsOf Try.f3 6) = rostrumlaw08_BallotVotes.T6 := by kernel_rfl
theorem rostrumlaw08_BallotVotes.bits6 : waitsOk rostrumlaw08_BallotVotes.T6.2 rostrumlaw08_BallotVotes.B6 = true := by kernel_rfl
def rostrumlaw08_BallotVotes.T7 : Bool × List (List Nat × List Nat) := (true, [([], []), ([0], [0]), ([1], [1]), ([2, 1, 1], [1, 2]), ([1], [1]), ([4, 3, 1], [1, 4]), ([3, 5, 1], [1, 3, 5]), ([1, 6], [1, 6]), ([7, 5], [7]), ([8], [8]), ([8], [8]), ([9, 10, 8], [8, 9, 10]), ([8, 11], [8, 11]), ([12, 8], [12]), ([13], [13]), ([13], [13]), ([14, 15, 13], [13, 14, 15]), ([13, 16], [13, 16]), ([17, 13], [17]), ([18], [18]), ([18], [18]), ([19, 20, 18], [18, 19, 20]), ([18, 21], [18, 21]), ([22, 18], [22]), ([23], [23]), ([23], [23]), ([24, 25, 23], [23, 24, 25]), ([23, 26], [23, 26]), ([27, 23, 0, 1, 2, 3, 4, 5, 6, 7, 8, 9, 10, 11, 12, 13, 14, 15, 16, 17, 18, 19, 20, 21, 22, 23, 24, 25, 26, 27], [27])])
def rostrumlaw08_BallotVotes.B7 : List Nat := [0, 1, 3, 7, 3, 31, 63, 127, 255, 511, 511, 2047, 4095, 8191, 16383, 16383, 65535, 131071, 262143, 524287, 524287, 2097151, 4194303, 8388607, 16777215, 16777215, 67108863, 134217727, 268435455]
theorem rostrumlaw08_BallotVotes.tab7 : rtab .any (opsOf Try.f3 7) = rostrumlaw08_BallotVotes.T7 := by kernel_rfl
theorem rostrumlaw08_BallotVotes.bits7 : waitsOk rostrumlaw08_BallotVotes.T7.2 rostrumlaw08_BallotVotes.B7 = true := by kernel_rfl
set_option maxHeartbeats 8000000 in
set_option maxRecDepth 100000 in
theorem rostrumlaw08_BallotVotes.calls_true (k : Nat) (a0_0 : Int) (a0_1 : Int) (a0_2 : ByteArray) (a1 : Int) (a2 : ByteArray) (r : Bool) (w : World) (h : rostrumlaw08_BallotVotes.f k a0_0 a0_1 a0_2 a1 a2 = some r) (hrt : r = true) :
    Calls Try.prog 3 #[.agg #[.int .u64 a0_0, .int .u64 a0_1, .string a0_2], .int .u64 a1, .string a2] w fun e w' => e = .returned (.bool r) ∧ Below w.heap.size w w' := by
  have hu24 := Try.underlying24
  have HB := Aside0.mk (Below.refl w.heap.size w)
  have H : ((rostrumlaw08_shown.f).bind fun t130 => ((rostrumlaw08_cut.f a0_2).bind fun t131 => ((G.ballot_Promise.f a0_0 a0_1 t131 a1).bind fun bt132 => ((rostrumref08_Promise.f k a0_0 a0_1 t131 a1).bind fun bt137 => ((rostrumlaw08_cut.f a2).bind fun t142 => ((G.ballot_Cast.f a0_0 a0_1 t131 a1 t142).bind fun bt143 => ((rostrumlaw08_cut.f a2).bind fun t148 => ((rostrumref08_Cast.f k a0_0 a0_1 t131 a1 t148).bind fun bt149 => (if t130 = true then ((G.ballot_Right.f a0_0 a0_1 t131).bind fun t154 => ((rostrumref08_Right.f a0_0 a0_1 t131).bind fun t155 => (if (t154 == t155) = true then (if (bt132.1 == bt137.1 && (bt132.2.1 == bt137.2.1 && (bt132.2.2.1.toList == bt137.2.2.1.toList))) = true then (if bt132.2.2.2 = bt137.2.2.2 then (if (bt143.1 == bt149.1 && (bt143.2.1 == bt149.2.1 && (bt143.2.2.1.toList == bt149.2.2.1.toList))) = true then (some (bt143.2.2.2 == bt149.2.2.2)) else (some false)) else (some false)) else (some false)) else (some false)))) else (some false)))))))))) = some r := h
  clear h
  replace H := Option.bind_eq_some_iff.mp H
  obtain ⟨t130, A40, H⟩ := H
  replace H : ((rostrumlaw08_cut.f a0_2).bind fun t131 => ((G.ballot_Promise.f a0_0 a0_1 t131 a1).bind fun bt132 => ((rostrumref08_Promise.f k a0_0 a0_1 t131 a1).bind fun bt137 => ((rostrumlaw08_cut.f a2).bind fun t142 => ((G.ballot_Cast.f a0_0 a0_1 t131 a1 t142).bind fun bt143 => ((rostrumlaw08_cut.f a2).bind fun t148 => ((rostrumref08_Cast.f k a0_0 a0_1 t131 a1 t148).bind fun bt149 => (if t130 = true then ((G.ballot_Right.f a0_0 a0_1 t131).bind fun t154 => ((rostrumref08_Right.f a0_0 a0_1 t131).bind fun t155 => (if (t154 == t155) = true then (if (bt132.1 == bt137.1 && (bt132.2.1 == bt137.2.1 && (bt132.2.2.1.toList == bt137.2.2.1.toList))) = true then (if bt132.2.2.2 = bt137.2.2.2 then (if (bt143.1 == bt149.1 && (bt143.2.1 == bt149.2.1 && (bt143.2.2.1.toList == bt149.2.2.1.toList))) = true then (some (bt143.2.2.2 == bt149.2.2.2)) else (some false)) else (some false)) else (some false)) else (some false)))) else (some false))))))))) = some r := H
  have A4 := Aside0.mk A40
  clear A40
  replace H := Option.bind_eq_some_iff.mp H
  obtain ⟨t131, A50, H⟩ := H
  replace H : ((G.ballot_Promise.f a0_0 a0_1 t131 a1).bind fun bt132 => ((rostrumref08_Promise.f k a0_0 a0_1 t131 a1).bind fun bt137 => ((rostrumlaw08_cut.f a2).bind fun t142 => ((G.ballot_Cast.f a0_0 a0_1 t131 a1 t142).bind fun bt143 => ((rostrumlaw08_cut.f a2).bind fun t148 => ((rostrumref08_Cast.f k a0_0 a0_1 t131 a1 t148).bind fun bt149 => (if t130 = true then ((G.ballot_Right.f a0_0 a0_1 t131).bind fun t154 => ((rostrumref08_Right.f a0_0 a0_1 t131).bind fun t155 => (if (t154 == t155) = true then (if (bt132.1 == bt137.1 && (bt132.2.1 == bt137.2.1 && (bt132.2.2.1.toList == bt137.2.2.1.toList))) = true then (if bt132.2.2.2 = bt137.2.2.2 then (if (bt143.1 == bt149.1 && (bt143.2.1 == bt149.2.1 && (bt143.2.2.1.toList == bt149.2.2.1.toList))) = true then (some (bt143.2.2.2 == bt149.2.2.2)) else (some false)) else (some false)) else (some false)) else (some false)))) else (some false)))))))) = some r := H
  have A5 := Aside0.mk A50
  clear A50
  replace H := Option.bind_eq_some_iff.mp H
  obtain ⟨⟨t132, t133, t134, t135⟩, A60, H⟩ := H
  replace H : ((rostrumref08_Promise.f k a0_0 a0_1 t131 a1).bind fun bt137 => ((rostrumlaw08_cut.f a2).bind fun t142 => ((G.ballot_Cast.f a0_0 a0_1 t131 a1 t142).bind fun bt143 => ((rostrumlaw08_cut.f a2).bind fun t148 => ((rostrumref08_Cast.f k a0_0 a0_1 t131 a1 t148).bind fun bt149 => (if t130 = true then ((G.ballot_Right.f a0_0 a0_1 t131).bind fun t154 => ((rostrumref08_Right.f a0_0 a0_1 t131).bind fun t155 => (if (t154 == t155) = true then (if (t132 == bt137.1 && (t133 == bt137.2.1 && (t134.toList == bt137.2.2.1.toList))) = true then (if t135 = bt137.2.2.2 then (if (bt143.1 == bt149.1 && (bt143.2.1 == bt149.2.1 && (bt143.2.2.1.toList == bt149.2.2.1.toList))) = true then (some (bt143.2.2.2 == bt149.2.2.2)) else (some false)) else (some false)) else (some false)) else (some false)))) else (some false))))))) = some r := H
  have A6 := Aside0.mk A60
  clear A60
  replace H := Option.bind_eq_some_iff.mp H
  obtain ⟨⟨t137, t138, t139, t140⟩, A70, H⟩ := H
  replace H : ((rostrumlaw08_cut.f a2).bind fun t142 => ((G.ballot_Cast.f a0_0 a0_1 t131 a1 t142).bind fun bt143 => ((rostrumlaw08_cut.f a2).bind fun t148 => ((rostrumref08_Cast.f k a0_0 a0_1 t131 a1 t148).bind fun bt149 => (if t130 = true then ((G.ballot_Right.f a0_0 a0_1 t131).bind fun t154 => ((rostrumref08_Right.f a0_0 a0_1 t131).bind fun t155 => (if (t154 == t155) = true then (if (t132 == t137 && (t133 == t138 && (t134.toList == t139.toList))) = true then (if t135 = t140 then (if (bt143.1 == bt149.1 && (bt143.2.1 == bt149.2.1 && (bt143.2.2.1.toList == bt149.2.2.1.toList))) = true then (some (bt143.2.2.2 == bt149.2.2.2)) else (some false)) else (some false)) else (some false)) else (some false)))) else (some false)))))) = some r := H
  have A7 := Aside0.mk A70
  clear A70
  replace H := Option.bind_eq_some_iff.mp H
  obtain ⟨t142, A80, H⟩ := H
  replace H : ((G.ballot_Cast.f a0_0 a0_1 t131 a1 t142).bind fun bt143 => ((rostrumlaw08_cut.f a2).bind fun t148 => ((rostrumref08_Cast.f k a0_0 a0_1 t131 a1 t148).bind fun bt149 => (if t130 = true then ((G.ballot_Right.f a0_0 a0_1 t131).bind fun t154 => ((rostrumref08_Right.f a0_0 a0_1 t131).bind fun t155 => (if (t154 == t155) = true then (if (t132 == t137 && (t133 == t138 && (t134.toList == t139.toList))) = true then (if t135 = t140 then (if (bt143.1 == bt149.1 && (bt143.2.1 == bt149.2.1 && (bt143.2.2.1.toList == bt149.2.2.1.toList))) = true then (some (bt143.2.2.2 == bt149.2.2.2)) else (some false)) else (some false)) else (some false)) else (some false)))) else (some false))))) = some r := H
  have A8 := Aside0.mk A80
  clear A80
  replace H := Option.bind_eq_some_iff.mp H
  obtain ⟨⟨t143, t144, t145, t146⟩, A90, H⟩ := H
  replace H : ((rostrumlaw08_cut.f a2).bind fun t148 => ((rostrumref08_Cast.f k a0_0 a0_1 t131 a1 t148).bind fun bt149 => (if t130 = true then ((G.ballot_Right.f a0_0 a0_1 t131).bind fun t154 => ((rostrumref08_Right.f a0_0 a0_1 t131).bind fun t155 => (if (t154 == t155) = true then (if (t132 == t137 && (t133 == t138 && (t134.toList == t139.toList))) = true then (if t135 = t140 then (if (t143 == bt149.1 && (t144 == bt149.2.1 && (t145.toList == bt149.2.2.1.toList))) = true then (some (t146 == bt149.2.2.2)) else (some false)) else (some false)) else (some false)) else (some false)))) else (some false)))) = some r := H
  have A9 := Aside0.mk A90
  clear A90
  replace H := Option.bind_eq_some_iff.mp H
  obtain ⟨t148, A100, H⟩ := H
  replace H : ((rostrumref08_Cast.f k a0_0 a0_1 t131 a1 t148).bind fun bt149 => (if t130 = true then ((G.ballot_Right.f a0_0 a0_1 t131).bind fun t154 => ((rostrumref08_Right.f a0_0 a0_1 t131).bind fun t155 => (if (t154 == t155) = true then (if (t132 == t137 && (t133 == t138 && (t134.toList == t139.toList))) = true then (if t135 = t140 then (if (t143 == bt149.1 && (t144 == bt149.2.1 && (t145.toList == bt149.2.2.1.toList))) = true then (some (t146 == bt149.2.2.2)) else (some false)) else (some false)) else (some false)) else (some false)))) else (some false))) = some r := H
  have A10 := Aside0.mk A100
  clear A100
  replace H := Option.bind_eq_some_iff.mp H
  obtain ⟨⟨t149, t150, t151, t152⟩, A110, H⟩ := H
  replace H : (if t130 = true then ((G.ballot_Right.f a0_0 a0_1 t131).bind fun t154 => ((rostrumref08_Right.f a0_0 a0_1 t131).bind fun t155 => (if (t154 == t155) = true then (if (t132 == t137 && (t133 == t138 && (t134.toList == t139.toList))) = true then (if t135 = t140 then (if (t143 == t149 && (t144 == t150 && (t145.toList == t151.toList))) = true then (some (t146 == t152)) else (some false)) else (some false)) else (some false)) else (some false)))) else (some false)) = some r := H
  have A11 := Aside0.mk A110
  clear A110
  by_cases c12 : t130 = true
  · subst c12
    have H1 : ((G.ballot_Right.f a0_0 a0_1 t131).bind fun t154 => ((rostrumref08_Right.f a0_0 a0_1 t131).bind fun t155 => (if (t154 == t155) = true then (if (t132 == t137 && (t133 == t138 && (t134.toList == t139.toList))) = true then (if t135 = t140 then (if (t143 == t149 && (t144 == t150 && (t145.toList == t151.toList))) = true then (some (t146 == t152)) else (some false)) else (some false)) else (some false)) else (some false)))) = some r := by rw [if_pos rfl] at H; exact H
    clear H
    have H := H1
    clear H1
    replace H := Option.bind_eq_some_iff.mp H
    obtain ⟨t154, A130, H⟩ := H
    replace H : ((rostrumref08_Right.f a0_0 a0_1 t131).bind fun t155 => (if (t154 == t155) = true then (if (t132 == t137 && (t133 == t138 && (t134.toList == t139.toList))) = true then (if t135 = t140 then (if (t143 == t149 && (t144 == t150 && (t145.toList == t151.toList))) = true then (some (t146 == t152)) else (some false)) else (some false)) else (some false)) else (some false))) = some r := H
    have A13 := Aside0.mk A130
    clear A130
    replace H := Option.bind_eq_some_iff.mp H
    obtain ⟨t155, A140, H⟩ := H
    replace H : (if (t154 == t155) = true then (if (t132 == t137 && (t133 == t138 && (t134.toList == t139.toList))) = true then (if t135 = t140 then (if (t143 == t149 && (t144 == t150 && (t145.toList == t151.toList))) = true then (some (t146 == t152)) else (some false)) else (some false)) else (some false)) else (some false)) = some r := H
    have A14 := Aside0.mk A140
    clear A140
    by_cases c15 : (t154 == t155) = true
    · rw [if_pos c15] at H
      have c15b0 : (t154 == t155) = true := c15
      (try (have c15b1 : decide (t154 = t155) = true := by simpa using c15))
      (try (have c15b2 : (t154 == t155) = true := by simpa using c15))
      clear c15
      by_cases c16 : (t132 == t137 && (t133 == t138 && (t134.toList == t139.toList))) = true
      · rw [if_pos c16] at H
        have c16b0 : (t132 == t137 && (t133 == t138 && (t134.toList == t139.toList))) = true := c16
        (try (have c16b1 : decide (t132 = t137 && (t133 == t138 && (t134.toList == t139.toList))) = true := by simpa using c16))
        (try (have c16b2 : (t132 == t137 && (t133 == t138 && (t134.toList == t139.toList))) = true := by simpa using c16))
        clear c16
        by_cases c17 : t135 = t140
        · rw [if_pos c17] at H
          have c17b0 : (t135 == t140) = true := beq_iff_eq.mpr c17
          have c17b1 : (t135 != t140) = false := bne_eq_false_iff_eq.mpr c17
          clear c17
          by_cases c18 : (t143 == t149 && (t144 == t150 && (t145.toList == t151.toList))) = true
          · rw [if_pos c18] at H
            have c18b0 : (t143 == t149 && (t144 == t150 && (t145.toList == t151.toList))) = true := c18
            (try (have c18b1 : decide (t143 = t149 && (t144 == t150 && (t145.toList == t151.toList))) = true := by simpa using c18))
            (try (have c18b2 : (t143 == t149 && (t144 == t150 && (t145.toList == t151.toList))) = true := by simpa using c18))
            clear c18
            obtain rfl := Option.some.inj H
            go_enter Try.func3, Try.ntmps3
            try go_wp2_with (first | ((with_reducible refine gate_dst (N := 3) rfl ?_); refine box_event ?hg (N := 3) ?hd (cs := #[.int .u64 a0_0, .int .u64 a0_1, .string a0_2]) (t := 24) ?hr ?_; (case hd => rfl); (case hg => rfl); (case hr => first | (go_simp; done) | (go_simp; rfl)); intro gb129 hg w19 hbox hb; have n0_ := Aside0.mk (below_step (by repeat (first | (with_reducible first | exact HB.out | apply below_alloc | apply pw_below_drewN | apply below_drew1) | exact HB.out)) hb); have n1_ := Aside0.mk (hbox); have n2_ := Aside0.mk ((by rw [hg]; exact (below_size (by repeat (first | (with_reducible first | exact HB.out | apply below_alloc | apply pw_below_drewN | apply below_drew1) | exact HB.out))) : w.heap.size ≤ gb129)); have n3_ := Aside0.mk ((by rw [hg]; exact (below_size (by repeat (first | (with_reducible first | exact HB.out | apply below_alloc | apply pw_below_drewN | apply below_drew1) | exact HB.out))) : w.heap.size ≤ gb129)); clear HB; have HB := n0_; have BK129 := n1_; have GW129 := n2_; have GE129 := n3_; clear n0_ n1_ n2_ n3_; clear hb hbox hg) | ((with_reducible refine gate_callee (f := 10) rfl ?_); refine goesL_ (some 16) rfl rfl Try.func10 (by kernel_rfl) rfl #[] rfl (by (try simp only [List.map_toArray, List.map_cons, List.map_nil]); first | done | rfl | (simp only [List.length_drop, List.length_take]; rfl)) ?_; (with_reducible refine (rostrumlaw08_shown.calls  true _ A4.out).mono ?_); rintro e w20 ⟨rfl, hb⟩; refine ⟨_, rfl, ?_⟩; have n0_ := Aside0.mk (blk_below (g := gb129) (o := .cells #[.int .u64 a0_0, .int .u64 a0_1, .string a0_2] 24 (0, 0)) (by (with_reducible repeat (first | refine blk_drewN ?_ _ | refine blk_drew ?_ | refine blk_alloc ?_ _)); exact BK129.out) hb); have n1_ := Aside0.mk (below_step (by repeat (first | (with_reducible first | exact HB.out | apply below_alloc | apply pw_below_drewN | apply below_drew1 | refine below_set ?_ GE129.out) | exact HB.out)) hb); clear BK129; clear HB; have BK129 := n0_; have HB := n1_; clear n0_ n1_; (try clear hb); (try clear hb2); (try clear hk); (try clear hi); have hcz21_0 : w20.cell? ⟨gb129, 0, none⟩ = some (.int .u64 a0_0) := (blk_cell BK129.out 0).trans rfl; have hcz21_1 : w20.cell? ⟨gb129, 1, none⟩ = some (.int .u64 a0_1) := (blk_cell BK129.out 1).trans rfl; have hcz21_2 : w20.cell? ⟨gb129, 2, none⟩ = some (.string a0_2) := (blk_cell BK129.out 2).trans rfl; have hfz21_0 := blk_frozen BK129.out 0; have hfz21_1 := blk_frozen BK129.out 1; have hfz21_2 := blk_frozen BK129.out 2) | ((with_reducible refine gate_callee (f := 11) rfl ?_); refine goesL_ (some 19) rfl rfl Try.func11 (by kernel_rfl) rfl #[.string a0_2] rfl (by (try simp only [List.map_toArray, List.map_cons, List.map_nil]); first | done | rfl | (simp only [List.length_drop, List.length_take]; rfl)) ?_; (with_reducible refine (rostrumlaw08_cut.calls a0_2 t131 _ A5.out).mono ?_); rintro e w22 ⟨rfl, hb⟩; refine ⟨_, rfl, ?_⟩; have n0_ := Aside0.mk (blk_below (g := gb129) (o := .cells #[.int .u64 a0_0, .int .u64 a0_1, .string a0_2] 24 (0, 0)) (by (with_reducible repeat (first | refine blk_drewN ?_ _ | refine blk_drew ?_ | refine blk_alloc ?_ _)); exact BK129.out) hb); have n1_ := Aside0.mk (below_step (by repeat (first | (with_reducible first | exact HB.out | apply below_alloc | apply pw_below_drewN | apply below_drew1 | refine below_set ?_ GE129.out) | exact HB.out)) hb); clear BK129; clear HB; have BK129 := n0_; have HB := n1_; clear n0_ n1_; (try clear hb); (try clear hb2); (try clear hk); (try clear hi); have hcz23_0 : w22.cell? ⟨gb129, 0, none⟩ = some (.int .u64 a0_0) := (blk_cell BK129.out 0).trans rfl; have hcz23_1 : w22.cell? ⟨gb129, 1, none⟩ = some (.int .u64 a0_1) := (blk_cell BK129.out 1).trans rfl; have hcz23_2 : w22.cell? ⟨gb129, 2, none⟩ = some (.string a0_2) := (blk_cell BK129.out 2).trans rfl; have hfz23_0 := blk_frozen BK129.out 0; have hfz23_1 := blk_frozen BK129.out 1; have hfz23_2 := blk_frozen BK129.out 2) | ((with_reducible refine gate_callee (f := 12) rfl ?_); refine goesL_ (some 24) rfl rfl Try.func12 (by kernel_rfl) rfl #[.agg #[.int .u64 a0_0, .int .u64 a0_1, .string t131], .int .u64 a1] rfl (by (try simp only [List.map_toArray, List.map_cons, List.map_nil]); first | done | rfl | (simp only [List.length_drop, List.length_take]; rfl)) ?_; (with_reducible refine (G.ballot_Promise.calls a0_0 a0_1 t131 a1 t132 t133 t134 t135 _ A6.out).mono ?_); rintro e w24 ⟨rfl, hb⟩; refine ⟨_, rfl, ?_⟩; have n0_ := Aside0.mk (blk_below (g := gb129) (o := .cells #[.int .u64 a0_0, .int .u64 a0_1, .string t131] 24 (0, 0)) (by (with_reducible repeat (first | refine blk_drewN ?_ _ | refine blk_drew ?_ | refine blk_alloc ?_ _)); refine blk_put (cs := #[.int .u64 a0_0, .int .u64 a0_1, .string a0_2]) ?_ 2 _ rfl; (with_reducible repeat (first | refine blk_drewN ?_ _ | refine blk_drew ?_ | refine blk_alloc ?_ _)); exact BK129.out) hb); have n1_ := Aside0.mk (below_step (by repeat (first | (with_reducible first | exact HB.out | apply below_alloc | apply pw_below_drewN | apply below_drew1 | refine below_set ?_ GE129.out) | exact HB.out)) hb); clear BK129; clear HB; have BK129 := n0_; have HB := n1_; clear n0_ n1_; (try clear hb); (try clear hb2); (try clear hk); (try clear hi)) | ((with_reducible refine gate_dst (N := 8) rfl ?_); refine box_event ?hg (N := 8) ?hd (cs := #[.int .u64 0, .int .u64 0, .string (⟨#[]⟩ : ByteArray)]) (t := 24) ?hr ?_; (case hd => rfl); (case hg => rfl); (case hr => first | (go_simp; done) | (go_simp; rfl)); intro gb136 hg w25 hbox hb; have n0_ := Aside0.mk (blk_below (g := gb129) (o := .cells #[.int .u64 a0_0, .int .u64 a0_1, .string t131] 24 (0, 0)) (by (with_reducible repeat (first | refine blk_drewN ?_ _ | refine blk_drew ?_ | refine blk_alloc ?_ _)); exact BK129.out) hb); have n1_ := Aside0.mk (below_step (by repeat (first | (with_reducible first | exact HB.out | apply below_alloc | apply pw_below_drewN | apply below_drew1 | refine below_set ?_ GE129.out) | exact HB.out)) hb); have n2_ := Aside0.mk (hbox); have n3_ := Aside0.mk ((by rw [hg]; exact (below_size (by repeat (first | (with_reducible first | exact HB.out | apply below_alloc | apply pw_below_drewN | apply below_drew1 | refine below_set ?_ GE129.out) | exact HB.out))) : w.heap.size ≤ gb136)); have n4_ := Aside0.mk ((by rw [hg]; exact (below_size (by repeat (first | (with_reducible first | exact HB.out | apply below_alloc | apply pw_below_drewN | apply below_drew1 | refine below_set ?_ GE129.out) | exact HB.out))) : w.heap.size ≤ gb136)); have n5_ := Aside0.mk ((by rw [hg]; exact Nat.ne_of_lt (blk_lt (g := gb129) (o := .cells #[.int .u64 a0_0, .int .u64 a0_1, .string t131] 24 (0, 0)) (by (with_reducible repeat (first | refine blk_drewN ?_ _ | refine blk_drew ?_ | refine blk_alloc ?_ _)); exact BK129.out)) : gb129 ≠ gb136)); have n6_ := Aside0.mk ((by rw [hg]; exact Nat.ne_of_gt (blk_lt (g := gb129) (o := .cells #[.int .u64 a0_0, .int .u64 a0_1, .string t131] 24 (0, 0)) (by (with_reducible repeat (first | refine blk_drewN ?_ _ | refine blk_drew ?_ | refine blk_alloc ?_ _)); exact BK129.out)) : gb136 ≠ gb129)); clear BK129; clear HB; have BK129 := n0_; have HB := n1_; have BK136 := n2_; have GW136 := n3_; have GE136 := n4_; have NB129_136 := n5_; have NB136_129 := n6_; clear n0_ n1_ n2_ n3_ n4_ n5_ n6_; clear hb hbox hg; have hnb26 := NB136_129.out; have hnc26 := NB129_136.out; have hcz27_0 : w25.cell? ⟨gb136, 0, none⟩ = some (.int .u64 0) := (blk_cell BK136.out 0).trans rfl; have hcz27_1 : w25.cell? ⟨gb136, 1, none⟩ = some (.int .u64 0) := (blk_cell BK136.out 1).trans rfl; have hcz27_2 : w25.cell? ⟨gb136, 2, none⟩ = some (.string (⟨#[]⟩ : ByteArray)) := (blk_cell BK136.out 2).trans rfl; have hfz27_0 := blk_frozen BK136.out 0; have hfz27_1 := blk_frozen BK136.out 1; have hfz27_2 := blk_frozen BK136.out 2; have hcz28_0 : w25.cell? ⟨gb129, 0, none⟩ = some (.int .u64 a0_0) := (blk_cell BK129.out 0).trans rfl; have hcz28_1 : w25.cell? ⟨gb129, 1, none⟩ = some (.int .u64 a0_1) := (blk_cell BK129.out 1).trans rfl; have hcz28_2 : w25.cell? ⟨gb129, 2, none⟩ = some (.string t131) := (blk_cell BK129.out 2).trans rfl; have hfz28_0 := blk_frozen BK129.out 0; have hfz28_1 := blk_frozen BK129.out 1; have hfz28_2 := blk_frozen BK129.out 2) | ((with_reducible refine gate_callee (f := 13) rfl ?_); refine goesL_ (some 30) rfl rfl Try.func13 (by kernel_rfl) rfl #[.agg #[.int .u64 a0_0, .int .u64 a0_1, .string t131], .int .u64 a1] rfl (by (try simp only [List.map_toArray, List.map_cons, List.map_nil]); first | done | rfl | (simp only [List.length_drop, List.length_take]; rfl)) ?_; (with_reducible refine (rostrumref08_Promise.calls k a0_0 a0_1 t131 a1 t137 t138 t139 t140 _ A7.out).mono ?_); rintro e w29 ⟨rfl, hb⟩; refine ⟨_, rfl, ?_⟩; have n0_ := Aside0.mk (blk_below (g := gb129) (o := .cells #[.int .u64 a0_0, .int .u64 a0_1, .string t131] 24 (0, 0)) (by (with_reducible repeat (first | refine blk_drewN ?_ _ | refine blk_drew ?_ | refine blk_alloc ?_ _)); refine blk_far ?_ NB129_136.out _; (with_reducible repeat (first | refine blk_drewN ?_ _ | refine blk_drew ?_ | refine blk_alloc ?_ _)); refine blk_far ?_ NB129_136.out _; (with_reducible repeat (first | refine blk_drewN ?_ _ | refine blk_drew ?_ | refine blk_alloc ?_ _)); refine blk_far ?_ NB129_136.out _; (with_reducible repeat (first | refine blk_drewN ?_ _ | refine blk_drew ?_ | refine blk_alloc ?_ _)); exact BK129.out) hb); have n1_ := Aside0.mk (blk_below (g := gb136) (o := .cells #[.int .u64 t132, .int .u64 t133, .string t134] 24 (0, 0)) (by (with_reducible repeat (first | refine blk_drewN ?_ _ | refine blk_drew ?_ | refine blk_alloc ?_ _)); refine blk_put (cs := #[.int .u64 t132, .int .u64 t133, .string (⟨#[]⟩ : ByteArray)]) ?_ 2 _ rfl; (with_reducible repeat (first | refine blk_drewN ?_ _ | refine blk_drew ?_ | refine blk_alloc ?_ _)); refine blk_put (cs := #[.int .u64 t132, .int .u64 0, .string (⟨#[]⟩ : ByteArray)]) ?_ 1 _ rfl; (with_reducible repeat (first | refine blk_drewN ?_ _ | refine blk_drew ?_ | refine blk_alloc ?_ _)); refine blk_put (cs := #[.int .u64 0, .int .u64 0, .string (⟨#[]⟩ : ByteArray)]) ?_ 0 _ rfl; (with_reducible repeat (first | refine blk_drewN ?_ _ | refine blk_drew ?_ | refine blk_alloc ?_ _)); exact BK136.out) hb); have n2_ := Aside0.mk (below_step (by repeat (first | (with_reducible first | exact HB.out | apply below_alloc | apply pw_below_drewN | apply below_drew1 | refine below_set ?_ GE129.out | refine below_set ?_ GE136.out) | exact HB.out)) hb); clear BK129; clear BK136; clear HB; have BK129 := n0_; have BK136 := n1_; have HB := n2_; clear n0_ n1_ n2_; (try clear hb); (try clear hb2); (try clear hk); (try clear hi)) | ((with_reducible refine gate_dst (N := 10) rfl ?_); refine box_event ?hg (N := 10) ?hd (cs := #[.int .u64 0, .int .u64 0, .string (⟨#[]⟩ : ByteArray)]) (t := 24) ?hr ?_; (case hd => rfl); (case hg => rfl); (case hr => first | (go_simp; done) | (go_simp; rfl)); intro gb141 hg w30 hbox hb; have n0_ := Aside0.mk (blk_below (g := gb129) (o := .cells #[.int .u64 a0_0, .int .u64 a0_1, .string t131] 24 (0, 0)) (by (with_reducible repeat (first | refine blk_drewN ?_ _ | refine blk_drew ?_ | refine blk_alloc ?_ _)); exact BK129.out) hb); have n1_ := Aside0.mk (blk_below (g := gb136) (o := .cells #[.int .u64 t132, .int .u64 t133, .string t134] 24 (0, 0)) (by (with_reducible repeat (first | refine blk_drewN ?_ _ | refine blk_drew ?_ | refine blk_alloc ?_ _)); exact BK136.out) hb); have n2_ := Aside0.mk (below_step (by repeat (first | (with_reducible first | exact HB.out | apply below_alloc | apply pw_below_drewN | apply below_drew1 | refine below_set ?_ GE129.out | refine below_set ?_ GE136.out) | exact HB.out)) hb); have n3_ := Aside0.mk (hbox); have n4_ := Aside0.mk ((by rw [hg]; exact (below_size (by repeat (first | (with_reducible first | exact HB.out | apply below_alloc | apply pw_below_drewN | apply below_drew1 | refine below_set ?_ GE129.out | refine below_set ?_ GE136.out) | exact HB.out))) : w.heap.size ≤ gb141)); have n5_ := Aside0.mk ((by rw [hg]; exact (below_size (by repeat (first | (with_reducible first | exact HB.out | apply below_alloc | apply pw_below_drewN | apply below_drew1 | refine below_set ?_ GE129.out | refine below_set ?_ GE136.out) | exact HB.out))) : w.heap.size ≤ gb141)); have n6_ := Aside0.mk ((by rw [hg]; exact Nat.ne_of_lt (blk_lt (g := gb129) (o := .cells #[.int .u64 a0_0, .int .u64 a0_1, .string t131] 24 (0, 0)) (by (with_reducible repeat (first | refine blk_drewN ?_ _ | refine blk_drew ?_ | refine blk_alloc ?_ _)); exact BK129.out)) : gb129 ≠ gb141)); have n7_ := Aside0.mk ((by rw [hg]; exact Nat.ne_of_gt (blk_lt (g := gb129) (o := .cells #[.int .u64 a0_0, .int .u64 a0_1, .string t131] 24 (0, 0)) (by (with_reducible repeat (first | refine blk_drewN ?_ _ | refine blk_drew ?_ | refine blk_alloc ?_ _)); exact BK129.out)) : gb141 ≠ gb129)); have n8_ := Aside0.mk ((by rw [hg]; exact Nat.ne_of_lt (blk_lt (g := gb136) (o := .cells #[.int .u64 t132, .int .u64 t133, .string t134] 24 (0, 0)) (by (with_reducible repeat (first | refine blk_drewN ?_ _ | refine blk_drew ?_ | refine blk_alloc ?_ _)); exact BK136.out)) : gb136 ≠ gb141)); have n9_ := Aside0.mk ((by rw [hg]; exact Nat.ne_of_gt (blk_lt (g := gb136) (o := .cells #[.int .u64 t132, .int .u64 t133, .string t134] 24 (0, 0)) (by (with_reducible repeat (first | refine blk_drewN ?_ _ | refine blk_drew ?_ | refine blk_alloc ?_ _)); exact BK136.out)) : gb141 ≠ gb136)); clear BK129; clear BK136; clear HB; have BK129 := n0_; have BK136 := n1_; have HB := n2_; have BK141 := n3_; have GW141 := n4_; have GE141 := n5_; have NB129_141 := n6_; have NB141_129 := n7_; have NB136_141 := n8_; have NB141_136 := n9_; clear n0_ n1_ n2_ n3_ n4_ n5_ n6_ n7_ n8_ n9_; clear hb hbox hg; have hnb31 := NB141_129.out; have hnc31 := NB129_141.out; have hnb32 := NB141_136.out; have hnc32 := NB136_141.out; have hcz33_0 : w30.cell? ⟨gb141, 0, none⟩ = some (.int .u64 0) := (blk_cell BK141.out 0).trans rfl; have hcz33_1 : w30.cell? ⟨gb141, 1, none⟩ = some (.int .u64 0) := (blk_cell BK141.out 1).trans rfl; have hcz33_2 : w30.cell? ⟨gb141, 2, none⟩ = some (.string (⟨#[]⟩ : ByteArray)) := (blk_cell BK141.out 2).trans rfl; have hfz33_0 := blk_frozen BK141.out 0; have hfz33_1 := blk_frozen BK141.out 1; have hfz33_2 := blk_frozen BK141.out 2))
            have n0_ : Aside0 ((((w30.setCell ⟨gb141, 0, none⟩ (.int .u64 t137)).setCell ⟨gb141, 1, none⟩ (.int .u64 t138)).setCell ⟨gb141, 2, none⟩ (.string t139)).heap[gb129]? = some (.cells #[.int .u64 a0_0, .int .u64 a0_1, .string t131] 24 (0, 0))) := ⟨by (with_reducible repeat (first | refine blk_drewN ?_ _ | refine blk_drew ?_ | refine blk_alloc ?_ _)); refine blk_far ?_ NB129_141.out _; (with_reducible repeat (first | refine blk_drewN ?_ _ | refine blk_drew ?_ | refine blk_alloc ?_ _)); refine blk_far ?_ NB129_141.out _; (with_reducible repeat (first | refine blk_drewN ?_ _ | refine blk_drew ?_ | refine blk_alloc ?_ _)); refine blk_far ?_ NB129_141.out _; (with_reducible repeat (first | refine blk_drewN ?_ _ | refine blk_drew ?_ | refine blk_alloc ?_ _)); exact BK129.out⟩
            have n1_ : Aside0 ((((w30.setCell ⟨gb141, 0, none⟩ (.int .u64 t137)).setCell ⟨gb141, 1, none⟩ (.int .u64 t138)).setCell ⟨gb141, 2, none⟩ (.string t139)).heap[gb136]? = some (.cells #[.int .u64 t132, .int .u64 t133, .string t134] 24 (0, 0))) := ⟨by (with_reducible repeat (first | refine blk_drewN ?_ _ | refine blk_drew ?_ | refine blk_alloc ?_ _)); refine blk_far ?_ NB136_141.out _; (with_reducible repeat (first | refine blk_drewN ?_ _ | refine blk_drew ?_ | refine blk_alloc ?_ _)); refine blk_far ?_ NB136_141.out _; (with_reducible repeat (first | refine blk_drewN ?_ _ | refine blk_drew ?_ | refine blk_alloc ?_ _)); refine blk_far ?_ NB136_141.out _; (with_reducible repeat (first | refine blk_drewN ?_ _ | refine blk_drew ?_ | refine blk_alloc ?_ _)); exact BK136.out⟩
            have n2_ : Aside0 ((((w30.setCell ⟨gb141, 0, none⟩ (.int .u64 t137)).setCell ⟨gb141, 1, none⟩ (.int .u64 t138)).setCell ⟨gb141, 2, none⟩ (.string t139)).heap[gb141]? = some (.cells #[.int .u64 t137, .int .u64 t138, .string t139] 24 (0, 0))) := ⟨by (with_reducible repeat (first | refine blk_drewN ?_ _ | refine blk_drew ?_ | refine blk_alloc ?_ _)); refine blk_put (cs := #[.int .u64 t137, .int .u64 t138, .string (⟨#[]⟩ : ByteArray)]) ?_ 2 _ rfl; (with_reducible repeat (first | refine blk_drewN ?_ _ | refine blk_drew ?_ | refine blk_alloc ?_ _)); refine blk_put (cs := #[.int .u64 t137, .int .u64 0, .string (⟨#[]⟩ : ByteArray)]) ?_ 1 _ rfl; (with_reducible repeat (first | refine blk_drewN ?_ _ | refine blk_drew ?_ | refine blk_alloc ?_ _)); refine blk_put (cs := #[.int .u64 0, .int .u64 0, .string (⟨#[]⟩ : ByteArray)]) ?_ 0 _ rfl; (with_reducible repeat (first | refine blk_drewN ?_ _ | refine blk_drew ?_ | refine blk_alloc ?_ _)); exact BK141.out⟩
            have n3_ : Aside0 (Below w.heap.size w (((w30.setCell ⟨gb141, 0, none⟩ (.int .u64 t137)).setCell ⟨gb141, 1, none⟩ (.int .u64 t138)).setCell ⟨gb141, 2, none⟩ (.string t139))) := ⟨by repeat (first | (with_reducible first | exact HB.out | apply below_alloc | apply pw_below_drewN | apply below_drew1 | refine below_set ?_ GE129.out | refine below_set ?_ GE136.out | refine below_set ?_ GE141.out) | exact HB.out)⟩
            (try clear BK129)
            (try clear BK136)
            (try clear BK141)
            (try clear HB)
            generalize (((w30.setCell ⟨gb141, 0, none⟩ (.int .u64 t137)).setCell ⟨gb141, 1, none⟩ (.int .u64 t138)).setCell ⟨gb141, 2, none⟩ (.string t139)) = w34 at n0_ n1_ n2_ n3_ ⊢
            have BK129 := n0_
            have BK136 := n1_
            have BK141 := n2_
            have HB := n3_
            clear n0_ n1_ n2_ n3_
            have n0_ := Aside0.mk (blk_drew BK129.out)
            have n1_ := Aside0.mk (blk_drew BK136.out)
            have n2_ := Aside0.mk (blk_drew BK141.out)
            have n3_ := Aside0.mk (below_drew1 HB.out)
            clear BK129
            clear BK136
            clear BK141
            clear HB
            have BK129 := n0_
            have BK136 := n1_
            have BK141 := n2_
            have HB := n3_
            clear n0_ n1_ n2_ n3_
            refine start_ (n := 11) (S := fun w' => w'.cell? ⟨gb129, 0, none⟩ = some (.int .u64 a0_0) ∧ w'.cell? ⟨gb129, 1, none⟩ = some (.int .u64 a0_1) ∧ w'.cell? ⟨gb129, 2, none⟩ = some (.string t131)) (ds := []) #[false, false, false, false, false, false, false, false, false, false, false] (by kernel_rfl) rfl rfl ⟨(blk_cell BK129.out 0).trans rfl, (blk_cell BK129.out 1).trans rfl, (blk_cell BK129.out 2).trans rfl⟩ (fun hHeld => ?_); refine with_tabW rostrumlaw08_BallotVotes.tab5 rostrumlaw08_BallotVotes.bits5 (fun HT_ HW_ => ?_)
            generalize w34.drew = w35 at BK129 BK136 BK141 HB hHeld ⊢
            refine pure_ (i := 1) (N := some 35) (v := ?_) (a' := ?_) #[false, true, false, false, false, false, false, false, false, false, false] rfl rfl (any_of HT_.out (by kernel_rfl)) (fun _ _ _ h => h) (Or.inl ⟨by rfl, ?_⟩) ?_ ?_
            rotate_left
            · intro w'
              go_simp
              with_reducible rfl
            rotate_left
            · simp only [Act.put, List.setIfInBounds_toArray, List.set_cons_zero, List.set_cons_succ, i64_w, i32_w]
              rfl
            refine pure_ (i := 2) (N := some 36) (v := ?_) (a' := ?_) #[false, true, true, false, false, false, false, false, false, false, false] rfl rfl (any_of HT_.out (by kernel_rfl)) (fun _ _ _ h => h) (Or.inl ⟨by rfl, ?_⟩) ?_ ?_
            rotate_left
            · intro w'
              go_simp
              with_reducible rfl
            rotate_left
            · simp only [Act.put, List.setIfInBounds_toArray, List.set_cons_zero, List.set_cons_succ, i64_w, i32_w]
              rfl
            refine take_ (i := 0) (N := some 34) (v := ?_) (a' := ?_) #[true, true, true, false, false, false, false, false, false, false, false] rfl rfl (take_ofW HT_.out HW_.out (by kernel_rfl)) (fun _ _ _ h => h) (Or.inl ⟨by rfl, ?_⟩) hHeld ?_ ?_
            rotate_left
            · rintro w' ⟨s0, s1, s2⟩
              go_simp
              with_reducible rfl
            rotate_left
            · simp only [Act.put, List.setIfInBounds_toArray, List.set_cons_zero, List.set_cons_succ, i64_w, i32_w]
              rfl
            refine join_ (σ := Nat) 2 #[true, true, true, true, true, true, true, true, true, false, false] (fun s_ => [(37, .string t142), (38, .tuple #[.agg #[.int .u64 t143, .int .u64 t144, .string t145], .int .i64 t146]), (12, .pointer (some ⟨s_, 0, none⟩)), (33, .tuple #[.agg #[.int .u64 t143, .int .u64 t144, .string t145], .int .i64 t146]), (39, .agg #[.int .u64 t143, .int .u64 t144, .string t145]), (40, .int .i64 t146)]) (fun s_ w' => (w'.cell? ⟨gb129, 0, none⟩ = some (.int .u64 a0_0) ∧ w'.cell? ⟨gb129, 1, none⟩ = some (.int .u64 a0_1) ∧ w'.cell? ⟨gb129, 2, none⟩ = some (.string t131)) ∧ (w'.heap[gb129]? = some (.cells #[.int .u64 a0_0, .int .u64 a0_1, .string t131] 24 (0, 0))) ∧ (w'.heap[gb136]? = some (.cells #[.int .u64 t132, .int .u64 t133, .string t134] 24 (0, 0))) ∧ (w'.heap[gb141]? = some (.cells #[.int .u64 t137, .int .u64 t138, .string t139] 24 (0, 0))) ∧ (w'.heap[s_]? = some (.cells #[.int .u64 0, .int .u64 0, .string (⟨#[]⟩ : ByteArray)] 24 (0, 0))) ∧ (w.heap.size ≤ s_) ∧ (w.heap.size ≤ s_) ∧ (gb129 ≠ s_) ∧ (s_ ≠ gb129) ∧ (gb136 ≠ s_) ∧ (s_ ≠ gb136) ∧ (gb141 ≠ s_) ∧ (s_ ≠ gb141) ∧ (Below w.heap.size w w')) ?_ ?_
            rotate_left
            · intro hCont
              refine two_ (i := 3) (j := 8) (Ni := some 37) (Nj := some 12) #[true, true, true, true, false, false, false, false, false, false, false] #[true, true, true, false, false, false, false, false, true, false, false] rfl rfl rfl rfl (two_of HT_.out (by kernel_rfl)) (by decide) (by decide) (fun K hK => ?_) (fun K hK => ?_)
              · skip
                refine goes_ Try.func11 (by kernel_rfl) rfl #[.string a2] (by rfl) rfl rfl (by (try simp only [List.map_toArray, List.map_cons, List.map_nil]); first | done | rfl | (simp only [List.length_drop, List.length_take]; rfl)) ?_
                with_reducible refine (rostrumlaw08_cut.calls a2 t142 _ A8.out).mono ?_
                rintro e w36 ⟨rfl, hb⟩
                refine ⟨_, rfl, ?_⟩
                have n0_ := Aside0.mk (blk_below (g := gb129) (o := .cells #[.int .u64 a0_0, .int .u64 a0_1, .string t131] 24 (0, 0)) (by (with_reducible repeat (first | refine blk_drewN ?_ _ | refine blk_drew ?_ | refine blk_alloc ?_ _)); exact BK129.out) hb)
                have n1_ := Aside0.mk (blk_below (g := gb136) (o := .cells #[.int .u64 t132, .int .u64 t133, .string t134] 24 (0, 0)) (by (with_reducible repeat (first | refine blk_drewN ?_ _ | refine blk_drew ?_ | refine blk_alloc ?_ _)); exact BK136.out) hb)
                have n2_ := Aside0.mk (blk_below (g := gb141) (o := .cells #[.int .u64 t137, .int .u64 t138, .string t139] 24 (0, 0)) (by (with_reducible repeat (first | refine blk_drewN ?_ _ | refine blk_drew ?_ | refine blk_alloc ?_ _)); exact BK141.out) hb)
                have n3_ := Aside0.mk (below_step (by repeat (first | (with_reducible first | exact HB.out | apply below_alloc | apply pw_below_drewN | apply below_drew1 | refine below_set ?_ GE129.out | refine below_set ?_ GE136.out | refine below_set ?_ GE141.out) | exact HB.out)) hb)
                clear BK129
                clear BK136
                clear BK141
                clear HB
                have BK129 := n0_
                have BK136 := n1_
                have BK141 := n2_
                have HB := n3_
                clear n0_ n1_ n2_ n3_
                (try clear hb)
                (try clear hb2)
                (try clear hk)
                (try clear hi)
                refine hK.out _ _ ⟨(blk_cell BK129.out 0).trans rfl, (blk_cell BK129.out 1).trans rfl, (blk_cell BK129.out 2).trans rfl⟩ (fun hHeld => ?_)
                clear hK K
                refine norm_ (a' := ?_) ?_ ?_
                rotate_left
                · show Act.put _ (some 37) _ = _
                  simp only [Act.put, List.setIfInBounds_toArray, List.set_cons_zero, List.set_cons_succ, i64_w, i32_w]
                  rfl
                refine two_ (i := 4) (j := 8) (Ni := some 38) (Nj := some 12) #[true, true, true, true, true, false, false, false, false, false, false] #[true, true, true, true, false, false, false, false, true, false, false] rfl rfl rfl rfl (two_of HT_.out (by kernel_rfl)) (by decide) (by decide) (fun K hK => ?_) (fun K hK => ?_)
                · skip
                  refine goes_ Try.func14 (by kernel_rfl) rfl #[.agg #[.int .u64 a0_0, .int .u64 a0_1, .string t131], .int .u64 a1, .string t142] (by rfl) rfl rfl (by (try simp only [List.map_toArray, List.map_cons, List.map_nil]); first | done | rfl | (simp only [List.length_drop, List.length_take]; rfl)) ?_
                  with_reducible refine (G.ballot_Cast.calls a0_0 a0_1 t131 a1 t142 t143 t144 t145 t146 _ A9.out).mono ?_
                  rintro e w37 ⟨rfl, hb⟩
                  refine ⟨_, rfl, ?_⟩
                  have n0_ := Aside0.mk (blk_below (g := gb129) (o := .cells #[.int .u64 a0_0, .int .u64 a0_1, .string t131] 24 (0, 0)) (by (with_reducible repeat (first | refine blk_drewN ?_ _ | refine blk_drew ?_ | refine blk_alloc ?_ _)); exact BK129.out) hb)
                  have n1_ := Aside0.mk (blk_below (g := gb136) (o := .cells #[.int .u64 t132, .int .u64 t133, .string t134] 24 (0, 0)) (by (with_reducible repeat (first | refine blk_drewN ?_ _ | refine blk_drew ?_ | refine blk_alloc ?_ _)); exact BK136.out) hb)
                  have n2_ := Aside0.mk (blk_below (g := gb141) (o := .cells #[.int .u64 t137, .int .u64 t138, .string t139] 24 (0, 0)) (by (with_reducible repeat (first | refine blk_drewN ?_ _ | refine blk_drew ?_ | refine blk_alloc ?_ _)); exact BK141.out) hb)
                  have n3_ := Aside0.mk (below_step (by repeat (first | (with_reducible first | exact HB.out | apply below_alloc | apply pw_below_drewN | apply below_drew1 | refine below_set ?_ GE129.out | refine below_set ?_ GE136.out | refine below_set ?_ GE141.out) | exact HB.out)) hb)
                  clear BK129
                  clear BK136
                  clear BK141
                  clear HB
                  have BK129 := n0_
                  have BK136 := n1_
                  have BK141 := n2_
                  have HB := n3_
                  clear n0_ n1_ n2_ n3_
                  (try clear hb)
                  (try clear hb2)
                  (try clear hk)
                  (try clear hi)
                  refine hK.out _ _ ⟨(blk_cell BK129.out 0).trans rfl, (blk_cell BK129.out 1).trans rfl, (blk_cell BK129.out 2).trans rfl⟩ (fun hHeld => ?_)
                  clear hK K
                  refine norm_ (a' := ?_) ?_ ?_
                  rotate_left
                  · show Act.put _ (some 38) _ = _
                    simp only [Act.put, List.setIfInBounds_toArray, List.set_cons_zero, List.set_cons_succ, i64_w, i32_w]
                    rfl
                  refine pure_ (i := 5) (N := some 33) (v := ?_) (a' := ?_) #[true, true, true, true, true, true, false, false, false, false, false] rfl rfl (any_of HT_.out (by kernel_rfl)) (fun _ _ _ h => h) (Or.inl ⟨by rfl, ?_⟩) ?_ ?_
                  rotate_left
                  · intro w'
                    go_simp
                    with_reducible rfl
                  rotate_left
                  · simp only [Act.put, List.setIfInBounds_toArray, List.set_cons_zero, List.set_cons_succ, i64_w, i32_w]
                    rfl
                  refine pure_ (i := 6) (N := some 39) (v := ?_) (a' := ?_) #[true, true, true, true, true, true, true, false, false, false, false] rfl rfl (any_of HT_.out (by kernel_rfl)) (fun _ _ _ h => h) (Or.inl ⟨by rfl, ?_⟩) ?_ ?_
                  rotate_left
                  · intro w'
                    go_simp
                    with_reducible rfl
                  rotate_left
                  · simp only [Act.put, List.setIfInBounds_toArray, List.set_cons_zero, List.set_cons_succ, i64_w, i32_w]
                    rfl
                  refine pure_ (i := 7) (N := some 40) (v := ?_) (a' := ?_) #[true, true, true, true, true, true, true, true, false, false, false] rfl rfl (any_of HT_.out (by kernel_rfl)) (fun _ _ _ h => h) (Or.inl ⟨by rfl, ?_⟩) ?_ ?_
                  rotate_left
                  · intro w'
                    go_simp
                    with_reducible rfl
                  rotate_left
                  · simp only [Act.put, List.setIfInBounds_toArray, List.set_cons_zero, List.set_cons_succ, i64_w, i32_w]
                    rfl
                  refine one_ (i := 8) (N := some 12) #[true, true, true, true, true, true, true, true, true, false, false] rfl rfl (one_of HT_.out (by kernel_rfl)) (by decide) (fun K hK => ?_)
                  refine box_step ?hg (N := 12) ?hd (cs := #[.int .u64 0, .int .u64 0, .string (⟨#[]⟩ : ByteArray)]) (t := 24) ?hr ?_; (case hd => rfl); (case hg => rfl); (case hr => first | (go_simp; done) | (go_simp; rfl))
                  intro gb147 hg w38 hbox hb
                  have n0_ := Aside0.mk (blk_below (g := gb129) (o := .cells #[.int .u64 a0_0, .int .u64 a0_1, .string t131] 24 (0, 0)) (by (with_reducible repeat (first | refine blk_drewN ?_ _ | refine blk_drew ?_ | refine blk_alloc ?_ _)); exact BK129.out) hb)
                  have n1_ := Aside0.mk (blk_below (g := gb136) (o := .cells #[.int .u64 t132, .int .u64 t133, .string t134] 24 (0, 0)) (by (with_reducible repeat (first | refine blk_drewN ?_ _ | refine blk_drew ?_ | refine blk_alloc ?_ _)); exact BK136.out) hb)
                  have n2_ := Aside0.mk (blk_below (g := gb141) (o := .cells #[.int .u64 t137, .int .u64 t138, .string t139] 24 (0, 0)) (by (with_reducible repeat (first | refine blk_drewN ?_ _ | refine blk_drew ?_ | refine blk_alloc ?_ _)); exact BK141.out) hb)
                  have n3_ := Aside0.mk (below_step (by repeat (first | (with_reducible first | exact HB.out | apply below_alloc | apply pw_below_drewN | apply below_drew1 | refine below_set ?_ GE129.out | refine below_set ?_ GE136.out | refine below_set ?_ GE141.out) | exact HB.out)) hb)
                  have n4_ := Aside0.mk (hbox)
                  have n5_ := Aside0.mk ((by rw [hg]; exact (below_size (by repeat (first | (with_reducible first | exact HB.out | apply below_alloc | apply pw_below_drewN | apply below_drew1 | refine below_set ?_ GE129.out | refine below_set ?_ GE136.out | refine below_set ?_ GE141.out) | exact HB.out))) : w.heap.size ≤ gb147))
                  have n6_ := Aside0.mk ((by rw [hg]; exact (below_size (by repeat (first | (with_reducible first | exact HB.out | apply below_alloc | apply pw_below_drewN | apply below_drew1 | refine below_set ?_ GE129.out | refine below_set ?_ GE136.out | refine below_set ?_ GE141.out) | exact HB.out))) : w.heap.size ≤ gb147))
                  have n7_ := Aside0.mk ((by rw [hg]; exact Nat.ne_of_lt (blk_lt (g := gb129) (o := .cells #[.int .u64 a0_0, .int .u64 a0_1, .string t131] 24 (0, 0)) (by (with_reducible repeat (first | refine blk_drewN ?_ _ | refine blk_drew ?_ | refine blk_alloc ?_ _)); exact BK129.out)) : gb129 ≠ gb147))
                  have n8_ := Aside0.mk ((by rw [hg]; exact Nat.ne_of_gt (blk_lt (g := gb129) (o := .cells #[.int .u64 a0_0, .int .u64 a0_1, .string t131] 24 (0, 0)) (by (with_reducible repeat (first | refine blk_drewN ?_ _ | refine blk_drew ?_ | refine blk_alloc ?_ _)); exact BK129.out)) : gb147 ≠ gb129))
                  have n9_ := Aside0.mk ((by rw [hg]; exact Nat.ne_of_lt (blk_lt (g := gb136) (o := .cells #[.int .u64 t132, .int .u64 t133, .string t134] 24 (0, 0)) (by (with_reducible repeat (first | refine blk_drewN ?_ _ | refine blk_drew ?_ | refine blk_alloc ?_ _)); exact BK136.out)) : gb136 ≠ gb147))
                  have n10_ := Aside0.mk ((by rw [hg]; exact Nat.ne_of_gt (blk_lt (g := gb136) (o := .cells #[.int .u64 t132, .int .u64 t133, .string t134] 24 (0, 0)) (by (with_reducible repeat (first | refine blk_drewN ?_ _ | refine blk_drew ?_ | refine blk_alloc ?_ _)); exact BK136.out)) : gb147 ≠ gb136))
                  have n11_ := Aside0.mk ((by rw [hg]; exact Nat.ne_of_lt (blk_lt (g := gb141) (o := .cells #[.int .u64 t137, .int .u64 t138, .string t139] 24 (0, 0)) (by (with_reducible repeat (first | refine blk_drewN ?_ _ | refine blk_drew ?_ | refine blk_alloc ?_ _)); exact BK141.out)) : gb141 ≠ gb147))
                  have n12_ := Aside0.mk ((by rw [hg]; exact Nat.ne_of_gt (blk_lt (g := gb141) (o := .cells #[.int .u64 t137, .int .u64 t138, .string t139] 24 (0, 0)) (by (with_reducible repeat (first | refine blk_drewN ?_ _ | refine blk_drew ?_ | refine blk_alloc ?_ _)); exact BK141.out)) : gb147 ≠ gb141))
                  clear BK129
                  clear BK136
                  clear BK141
                  clear HB
                  have BK129 := n0_
                  have BK136 := n1_
                  have BK141 := n2_
                  have HB := n3_
                  have BK147 := n4_
                  have GW147 := n5_
                  have GE147 := n6_
                  have NB129_147 := n7_
                  have NB147_129 := n8_
                  have NB136_147 := n9_
                  have NB147_136 := n10_
                  have NB141_147 := n11_
                  have NB147_141 := n12_
                  clear n0_ n1_ n2_ n3_ n4_ n5_ n6_ n7_ n8_ n9_ n10_ n11_ n12_
                  clear hb hbox hg
                  refine hK.out _ _ ⟨(blk_cell BK129.out 0).trans rfl, (blk_cell BK129.out 1).trans rfl, (blk_cell BK129.out 2).trans rfl⟩ (fun hHeld => ?_)
                  clear hK K
                  refine norm_ (a' := ?_) ?_ ?_
                  rotate_left
                  · show Act.put _ (some 12) _ = _
                    simp only [Act.put, List.setIfInBounds_toArray, List.set_cons_zero, List.set_cons_succ, i64_w, i32_w]
                    rfl
                  exact norm_ (by simp only [putAll, Act.put, List.setIfInBounds_toArray, List.set_cons_zero, List.set_cons_succ]) (hCont (gb147) _ ⟨hHeld, (by (with_reducible repeat (first | refine blk_drewN ?_ _ | refine blk_drew ?_ | refine blk_alloc ?_ _)); exact BK129.out), (by (with_reducible repeat (first | refine blk_drewN ?_ _ | refine blk_drew ?_ | refine blk_alloc ?_ _)); exact BK136.out), (by (with_reducible repeat (first | refine blk_drewN ?_ _ | refine blk_drew ?_ | refine blk_alloc ?_ _)); exact BK141.out), (by (with_reducible repeat (first | refine blk_drewN ?_ _ | refine blk_drew ?_ | refine blk_alloc ?_ _)); exact BK147.out), GW147.out, GE147.out, NB129_147.out, NB147_129.out, NB136_147.out, NB147_136.out, NB141_147.out, NB147_141.out, (by repeat (first | (with_reducible first | exact HB.out | apply below_alloc | apply pw_below_drewN | apply below_drew1 | refine below_set ?_ GE129.out | refine below_set ?_ GE136.out | refine below_set ?_ GE141.out | refine below_set ?_ GE147.out) | exact HB.out))⟩)
                · skip
                  refine box_step ?hg (N := 12) ?hd (cs := #[.int .u64 0, .int .u64 0, .string (⟨#[]⟩ : ByteArray)]) (t := 24) ?hr ?_; (case hd => rfl); (case hg => rfl); (case hr => first | (go_simp; done) | (go_simp; rfl))
                  intro gb147 hg w37 hbox hb
                  have n0_ := Aside0.mk (blk_below (g := gb129) (o := .cells #[.int .u64 a0_0, .int .u64 a0_1, .string t131] 24 (0, 0)) (by (with_reducible repeat (first | refine blk_drewN ?_ _ | refine blk_drew ?_ | refine blk_alloc ?_ _)); exact BK129.out) hb)
                  have n1_ := Aside0.mk (blk_below (g := gb136) (o := .cells #[.int .u64 t132, .int .u64 t133, .string t134] 24 (0, 0)) (by (with_reducible repeat (first | refine blk_drewN ?_ _ | refine blk_drew ?_ | refine blk_alloc ?_ _)); exact BK136.out) hb)
                  have n2_ := Aside0.mk (blk_below (g := gb141) (o := .cells #[.int .u64 t137, .int .u64 t138, .string t139] 24 (0, 0)) (by (with_reducible repeat (first | refine blk_drewN ?_ _ | refine blk_drew ?_ | refine blk_alloc ?_ _)); exact BK141.out) hb)
                  have n3_ := Aside0.mk (below_step (by repeat (first | (with_reducible first | exact HB.out | apply below_alloc | apply pw_below_drewN | apply below_drew1 | refine below_set ?_ GE129.out | refine below_set ?_ GE136.out | refine below_set ?_ GE141.out) | exact HB.out)) hb)
                  have n4_ := Aside0.mk (hbox)
                  have n5_ := Aside0.mk ((by rw [hg]; exact (below_size (by repeat (first | (with_reducible first | exact HB.out | apply below_alloc | apply pw_below_drewN | apply below_drew1 | refine below_set ?_ GE129.out | refine below_set ?_ GE136.out | refine below_set ?_ GE141.out) | exact HB.out))) : w.heap.size ≤ gb147))
                  have n6_ := Aside0.mk ((by rw [hg]; exact (below_size (by repeat (first | (with_reducible first | exact HB.out | apply below_alloc | apply pw_below_drewN | apply below_drew1 | refine below_set ?_ GE129.out | refine below_set ?_ GE136.out | refine below_set ?_ GE141.out) | exact HB.out))) : w.heap.size ≤ gb147))
                  have n7_ := Aside0.mk ((by rw [hg]; exact Nat.ne_of_lt (blk_lt (g := gb129) (o := .cells #[.int .u64 a0_0, .int .u64 a0_1, .string t131] 24 (0, 0)) (by (with_reducible repeat (first | refine blk_drewN ?_ _ | refine blk_drew ?_ | refine blk_alloc ?_ _)); exact BK129.out)) : gb129 ≠ gb147))
                  have n8_ := Aside0.mk ((by rw [hg]; exact Nat.ne_of_gt (blk_lt (g := gb129) (o := .cells #[.int .u64 a0_0, .int .u64 a0_1, .string t131] 24 (0, 0)) (by (with_reducible repeat (first | refine blk_drewN ?_ _ | refine blk_drew ?_ | refine blk_alloc ?_ _)); exact BK129.out)) : gb147 ≠ gb129))
                  have n9_ := Aside0.mk ((by rw [hg]; exact Nat.ne_of_lt (blk_lt (g := gb136) (o := .cells #[.int .u64 t132, .int .u64 t133, .string t134] 24 (0, 0)) (by (with_reducible repeat (first | refine blk_drewN ?_ _ | refine blk_drew ?_ | refine blk_alloc ?_ _)); exact BK136.out)) : gb136 ≠ gb147))
                  have n10_ := Aside0.mk ((by rw [hg]; exact Nat.ne_of_gt (blk_lt (g := gb136) (o := .cells #[.int .u64 t132, .int .u64 t133, .string t134] 24 (0, 0)) (by (with_reducible repeat (first | refine blk_drewN ?_ _ | refine blk_drew ?_ | refine blk_alloc ?_ _)); exact BK136.out)) : gb147 ≠ gb136))
                  have n11_ := Aside0.mk ((by rw [hg]; exact Nat.ne_of_lt (blk_lt (g := gb141) (o := .cells #[.int .u64 t137, .int .u64 t138, .string t139] 24 (0, 0)) (by (with_reducible repeat (first | refine blk_drewN ?_ _ | refine blk_drew ?_ | refine blk_alloc ?_ _)); exact BK141.out)) : gb141 ≠ gb147))
                  have n12_ := Aside0.mk ((by rw [hg]; exact Nat.ne_of_gt (blk_lt (g := gb141) (o := .cells #[.int .u64 t137, .int .u64 t138, .string t139] 24 (0, 0)) (by (with_reducible repeat (first | refine blk_drewN ?_ _ | refine blk_drew ?_ | refine blk_alloc ?_ _)); exact BK141.out)) : gb147 ≠ gb141))
                  clear BK129
                  clear BK136
                  clear BK141
                  clear HB
                  have BK129 := n0_
                  have BK136 := n1_
                  have BK141 := n2_
                  have HB := n3_
                  have BK147 := n4_
                  have GW147 := n5_
                  have GE147 := n6_
                  have NB129_147 := n7_
                  have NB147_129 := n8_
                  have NB136_147 := n9_
                  have NB147_136 := n10_
                  have NB141_147 := n11_
                  have NB147_141 := n12_
                  clear n0_ n1_ n2_ n3_ n4_ n5_ n6_ n7_ n8_ n9_ n10_ n11_ n12_
                  clear hb hbox hg
                  refine hK.out _ _ ⟨(blk_cell BK129.out 0).trans rfl, (blk_cell BK129.out 1).trans rfl, (blk_cell BK129.out 2).trans rfl⟩ (fun hHeld => ?_)
                  clear hK K
                  refine norm_ (a' := ?_) ?_ ?_
                  rotate_left
                  · show Act.put _ (some 12) _ = _
                    simp only [Act.put, List.setIfInBounds_toArray, List.set_cons_zero, List.set_cons_succ, i64_w, i32_w]
                    rfl
                  refine one_ (i := 4) (N := some 38) #[true, true, true, true, true, false, false, false, true, false, false] rfl rfl (one_of HT_.out (by kernel_rfl)) (by decide) (fun K hK => ?_)
                  refine goes_ Try.func14 (by kernel_rfl) rfl #[.agg #[.int .u64 a0_0, .int .u64 a0_1, .string t131], .int .u64 a1, .string t142] (by rfl) rfl rfl (by (try simp only [List.map_toArray, List.map_cons, List.map_nil]); first | done | rfl | (simp only [List.length_drop, List.length_take]; rfl)) ?_
                  with_reducible refine (G.ballot_Cast.calls a0_0 a0_1 t131 a1 t142 t143 t144 t145 t146 _ A9.out).mono ?_
                  rintro e w38 ⟨rfl, hb⟩
                  refine ⟨_, rfl, ?_⟩
                  have n0_ := Aside0.mk (blk_below (g := gb129) (o := .cells #[.int .u64 a0_0, .int .u64 a0_1, .string t131] 24 (0, 0)) (by (with_reducible repeat (first | refine blk_drewN ?_ _ | refine blk_drew ?_ | refine blk_alloc ?_ _)); exact BK129.out) hb)
                  have n1_ := Aside0.mk (blk_below (g := gb136) (o := .cells #[.int .u64 t132, .int .u64 t133, .string t134] 24 (0, 0)) (by (with_reducible repeat (first | refine blk_drewN ?_ _ | refine blk_drew ?_ | refine blk_alloc ?_ _)); exact BK136.out) hb)
                  have n2_ := Aside0.mk (blk_below (g := gb141) (o := .cells #[.int .u64 t137, .int .u64 t138, .string t139] 24 (0, 0)) (by (with_reducible repeat (first | refine blk_drewN ?_ _ | refine blk_drew ?_ | refine blk_alloc ?_ _)); exact BK141.out) hb)
                  have n3_ := Aside0.mk (blk_below (g := gb147) (o := .cells #[.int .u64 0, .int .u64 0, .string (⟨#[]⟩ : ByteArray)] 24 (0, 0)) (by (with_reducible repeat (first | refine blk_drewN ?_ _ | refine blk_drew ?_ | refine blk_alloc ?_ _)); exact BK147.out) hb)
                  have n4_ := Aside0.mk (below_step (by repeat (first | (with_reducible first | exact HB.out | apply below_alloc | apply pw_below_drewN | apply below_drew1 | refine below_set ?_ GE129.out | refine below_set ?_ GE136.out | refine below_set ?_ GE141.out | refine below_set ?_ GE147.out) | exact HB.out)) hb)
                  clear BK129
                  clear BK136
                  clear BK141
                  clear BK147
                  clear HB
                  have BK129 := n0_
                  have BK136 := n1_
                  have BK141 := n2_
                  have BK147 := n3_
                  have HB := n4_
                  clear n0_ n1_ n2_ n3_ n4_
                  (try clear hb)
                  (try clear hb2)
                  (try clear hk)
                  (try clear hi)
                  refine hK.out _ _ ⟨(blk_cell BK129.out 0).trans rfl, (blk_cell BK129.out 1).trans rfl, (blk_cell BK129.out 2).trans rfl⟩ (fun hHeld => ?_)
                  clear hK K
                  refine norm_ (a' := ?_) ?_ ?_
                  rotate_left
                  · show Act.put _ (some 38) _ = _
                    simp only [Act.put, List.setIfInBounds_toArray, List.set_cons_zero, List.set_cons_succ, i64_w, i32_w]
                    rfl
                  refine pure_ (i := 5) (N := some 33) (v := ?_) (a' := ?_) #[true, true, true, true, true, true, false, false, true, false, false] rfl rfl (any_of HT_.out (by kernel_rfl)) (fun _ _ _ h => h) (Or.inl ⟨by rfl, ?_⟩) ?_ ?_
                  rotate_left
                  · intro w'
                    go_simp
                    with_reducible rfl
                  rotate_left
                  · simp only [Act.put, List.setIfInBounds_toArray, List.set_cons_zero, List.set_cons_succ, i64_w, i32_w]
                    rfl
                  refine pure_ (i := 6) (N := some 39) (v := ?_) (a' := ?_) #[true, true, true, true, true, true, true, false, true, false, false] rfl rfl (any_of HT_.out (by kernel_rfl)) (fun _ _ _ h => h) (Or.inl ⟨by rfl, ?_⟩) ?_ ?_
                  rotate_left
                  · intro w'
                    go_simp
                    with_reducible rfl
                  rotate_left
                  · simp only [Act.put, List.setIfInBounds_toArray, List.set_cons_zero, List.set_cons_succ, i64_w, i32_w]
                    rfl
                  refine pure_ (i := 7) (N := some 40) (v := ?_) (a' := ?_) #[true, true, true, true, true, true, true, true, true, false, false] rfl rfl (any_of HT_.out (by kernel_rfl)) (fun _ _ _ h => h) (Or.inl ⟨by rfl, ?_⟩) ?_ ?_
                  rotate_left
                  · intro w'
                    go_simp
                    with_reducible rfl
                  rotate_left
                  · simp only [Act.put, List.setIfInBounds_toArray, List.set_cons_zero, List.set_cons_succ, i64_w, i32_w]
                    rfl
                  exact norm_ (by simp only [putAll, Act.put, List.setIfInBounds_toArray, List.set_cons_zero, List.set_cons_succ]) (hCont (gb147) _ ⟨hHeld, (by (with_reducible repeat (first | refine blk_drewN ?_ _ | refine blk_drew ?_ | refine blk_alloc ?_ _)); exact BK129.out), (by (with_reducible repeat (first | refine blk_drewN ?_ _ | refine blk_drew ?_ | refine blk_alloc ?_ _)); exact BK136.out), (by (with_reducible repeat (first | refine blk_drewN ?_ _ | refine blk_drew ?_ | refine blk_alloc ?_ _)); exact BK141.out), (by (with_reducible repeat (first | refine blk_drewN ?_ _ | refine blk_drew ?_ | refine blk_alloc ?_ _)); exact BK147.out), GW147.out, GE147.out, NB129_147.out, NB147_129.out, NB136_147.out, NB147_136.out, NB141_147.out, NB147_141.out, (by repeat (first | (with_reducible first | exact HB.out | apply below_alloc | apply pw_below_drewN | apply below_drew1 | refine below_set ?_ GE129.out | refine below_set ?_ GE136.out | refine below_set ?_ GE141.out | refine below_set ?_ GE147.out) | exact HB.out))⟩)
              · skip
                refine box_step ?hg (N := 12) ?hd (cs := #[.int .u64 0, .int .u64 0, .string (⟨#[]⟩ : ByteArray)]) (t := 24) ?hr ?_; (case hd => rfl); (case hg => rfl); (case hr => first | (go_simp; done) | (go_simp; rfl))
                intro gb147 hg w36 hbox hb
                have n0_ := Aside0.mk (blk_below (g := gb129) (o := .cells #[.int .u64 a0_0, .int .u64 a0_1, .string t131] 24 (0, 0)) (by (with_reducible repeat (first | refine blk_drewN ?_ _ | refine blk_drew ?_ | refine blk_alloc ?_ _)); exact BK129.out) hb)
                have n1_ := Aside0.mk (blk_below (g := gb136) (o := .cells #[.int .u64 t132, .int .u64 t133, .string t134] 24 (0, 0)) (by (with_reducible repeat (first | refine blk_drewN ?_ _ | refine blk_drew ?_ | refine blk_alloc ?_ _)); exact BK136.out) hb)
                have n2_ := Aside0.mk (blk_below (g := gb141) (o := .cells #[.int .u64 t137, .int .u64 t138, .string t139] 24 (0, 0)) (by (with_reducible repeat (first | refine blk_drewN ?_ _ | refine blk_drew ?_ | refine blk_alloc ?_ _)); exact BK141.out) hb)
                have n3_ := Aside0.mk (below_step (by repeat (first | (with_reducible first | exact HB.out | apply below_alloc | apply pw_below_drewN | apply below_drew1 | refine below_set ?_ GE129.out | refine below_set ?_ GE136.out | refine below_set ?_ GE141.out) | exact HB.out)) hb)
                have n4_ := Aside0.mk (hbox)
                have n5_ := Aside0.mk ((by rw [hg]; exact (below_size (by repeat (first | (with_reducible first | exact HB.out | apply below_alloc | apply pw_below_drewN | apply below_drew1 | refine below_set ?_ GE129.out | refine below_set ?_ GE136.out | refine below_set ?_ GE141.out) | exact HB.out))) : w.heap.size ≤ gb147))
                have n6_ := Aside0.mk ((by rw [hg]; exact (below_size (by repeat (first | (with_reducible first | exact HB.out | apply below_alloc | apply pw_below_drewN | apply below_drew1 | refine below_set ?_ GE129.out | refine below_set ?_ GE136.out | refine below_set ?_ GE141.out) | exact HB.out))) : w.heap.size ≤ gb147))
                have n7_ := Aside0.mk ((by rw [hg]; exact Nat.ne_of_lt (blk_lt (g := gb129) (o := .cells #[.int .u64 a0_0, .int .u64 a0_1, .string t131] 24 (0, 0)) (by (with_reducible repeat (first | refine blk_drewN ?_ _ | refine blk_drew ?_ | refine blk_alloc ?_ _)); exact BK129.out)) : gb129 ≠ gb147))
                have n8_ := Aside0.mk ((by rw [hg]; exact Nat.ne_of_gt (blk_lt (g := gb129) (o := .cells #[.int .u64 a0_0, .int .u64 a0_1, .string t131] 24 (0, 0)) (by (with_reducible repeat (first | refine blk_drewN ?_ _ | refine blk_drew ?_ | refine blk_alloc ?_ _)); exact BK129.out)) : gb147 ≠ gb129))
                have n9_ := Aside0.mk ((by rw [hg]; exact Nat.ne_of_lt (blk_lt (g := gb136) (o := .cells #[.int .u64 t132, .int .u64 t133, .string t134] 24 (0, 0)) (by (with_reducible repeat (first | refine blk_drewN ?_ _ | refine blk_drew ?_ | refine blk_alloc ?_ _)); exact BK136.out)) : gb136 ≠ gb147))
                have n10_ := Aside0.mk ((by rw [hg]; exact Nat.ne_of_gt (blk_lt (g := gb136) (o := .cells #[.int .u64 t132, .int .u64 t133, .string t134] 24 (0, 0)) (by (with_reducible repeat (first | refine blk_drewN ?_ _ | refine blk_drew ?_ | refine blk_alloc ?_ _)); exact BK136.out)) : gb147 ≠ gb136))
                have n11_ := Aside0.mk ((by rw [hg]; exact Nat.ne_of_lt (blk_lt (g := gb141) (o := .cells #[.int .u64 t137, .int .u64 t138, .string t139] 24 (0, 0)) (by (with_reducible repeat (first | refine blk_drewN ?_ _ | refine blk_drew ?_ | refine blk_alloc ?_ _)); exact BK141.out)) : gb141 ≠ gb147))
                have n12_ := Aside0.mk ((by rw [hg]; exact Nat.ne_of_gt (blk_lt (g := gb141) (o := .cells #[.int .u64 t137, .int .u64 t138, .string t139] 24 (0, 0)) (by (with_reducible repeat (first | refine blk_drewN ?_ _ | refine blk_drew ?_ | refine blk_alloc ?_ _)); exact BK141.out)) : gb147 ≠ gb141))
                clear BK129
                clear BK136
                clear BK141
                clear HB
                have BK129 := n0_
                have BK136 := n1_
                have BK141 := n2_
                have HB := n3_
                have BK147 := n4_
                have GW147 := n5_
                have GE147 := n6_
                have NB129_147 := n7_
                have NB147_129 := n8_
                have NB136_147 := n9_
                have NB147_136 := n10_
                have NB141_147 := n11_
                have NB147_141 := n12_
                clear n0_ n1_ n2_ n3_ n4_ n5_ n6_ n7_ n8_ n9_ n10_ n11_ n12_
                clear hb hbox hg
                refine hK.out _ _ ⟨(blk_cell BK129.out 0).trans rfl, (blk_cell BK129.out 1).trans rfl, (blk_cell BK129.out 2).trans rfl⟩ (fun hHeld => ?_)
                clear hK K
                refine norm_ (a' := ?_) ?_ ?_
                rotate_left
                · show Act.put _ (some 12) _ = _
                  simp only [Act.put, List.setIfInBounds_toArray, List.set_cons_zero, List.set_cons_succ, i64_w, i32_w]
                  rfl
                refine one_ (i := 3) (N := some 37) #[true, true, true, true, false, false, false, false, true, false, false] rfl rfl (one_of HT_.out (by kernel_rfl)) (by decide) (fun K hK => ?_)
                refine goes_ Try.func11 (by kernel_rfl) rfl #[.string a2] (by rfl) rfl rfl (by (try simp only [List.map_toArray, List.map_cons, List.map_nil]); first | done | rfl | (simp only [List.length_drop, List.length_take]; rfl)) ?_
                with_reducible refine (rostrumlaw08_cut.calls a2 t142 _ A8.out).mono ?_
                rintro e w37 ⟨rfl, hb⟩
                refine ⟨_, rfl, ?_⟩
                have n0_ := Aside0.mk (blk_below (g := gb129) (o := .cells #[.int .u64 a0_0, .int .u64 a0_1, .string t131] 24 (0, 0)) (by (with_reducible repeat (first | refine blk_drewN ?_ _ | refine blk_drew ?_ | refine blk_alloc ?_ _)); exact BK129.out) hb)
                have n1_ := Aside0.mk (blk_below (g := gb136) (o := .cells #[.int .u64 t132, .int .u64 t133, .string t134] 24 (0, 0)) (by (with_reducible repeat (first | refine blk_drewN ?_ _ | refine blk_drew ?_ | refine blk_alloc ?_ _)); exact BK136.out) hb)
                have n2_ := Aside0.mk (blk_below (g := gb141) (o := .cells #[.int .u64 t137, .int .u64 t138, .string t139] 24 (0, 0)) (by (with_reducible repeat (first | refine blk_drewN ?_ _ | refine blk_drew ?_ | refine blk_alloc ?_ _)); exact BK141.out) hb)
                have n3_ := Aside0.mk (blk_below (g := gb147) (o := .cells #[.int .u64 0, .int .u64 0, .string (⟨#[]⟩ : ByteArray)] 24 (0, 0)) (by (with_reducible repeat (first | refine blk_drewN ?_ _ | refine blk_drew ?_ | refine blk_alloc ?_ _)); exact BK147.out) hb)
                have n4_ := Aside0.mk (below_step (by repeat (first | (with_reducible first | exact HB.out | apply below_alloc | apply pw_below_drewN | apply below_drew1 | refine below_set ?_ GE129.out | refine below_set ?_ GE136.out | refine below_set ?_ GE141.out | refine below_set ?_ GE147.out) | exact HB.out)) hb)
                clear BK129
                clear BK136
                clear BK141
                clear BK147
                clear HB
                have BK129 := n0_
                have BK136 := n1_
                have BK141 := n2_
                have BK147 := n3_
                have HB := n4_
                clear n0_ n1_ n2_ n3_ n4_
                (try clear hb)
                (try clear hb2)
                (try clear hk)
                (try clear hi)
                refine hK.out _ _ ⟨(blk_cell BK129.out 0).trans rfl, (blk_cell BK129.out 1).trans rfl, (blk_cell BK129.out 2).trans rfl⟩ (fun hHeld => ?_)
                clear hK K
                refine norm_ (a' := ?_) ?_ ?_
                rotate_left
                · show Act.put _ (some 37) _ = _
                  simp only [Act.put, List.setIfInBounds_toArray, List.set_cons_zero, List.set_cons_succ, i64_w, i32_w]
                  rfl
                refine one_ (i := 4) (N := some 38) #[true, true, true, true, true, false, false, false, true, false, false] rfl rfl (one_of HT_.out (by kernel_rfl)) (by decide) (fun K hK => ?_)
                refine goes_ Try.func14 (by kernel_rfl) rfl #[.agg #[.int .u64 a0_0, .int .u64 a0_1, .string t131], .int .u64 a1, .string t142] (by rfl) rfl rfl (by (try simp only [List.map_toArray, List.map_cons, List.map_nil]); first | done | rfl | (simp only [List.length_drop, List.length_take]; rfl)) ?_
                with_reducible refine (G.ballot_Cast.calls a0_0 a0_1 t131 a1 t142 t143 t144 t145 t146 _ A9.out).mono ?_
                rintro e w38 ⟨rfl, hb⟩
                refine ⟨_, rfl, ?_⟩
                have n0_ := Aside0.mk (blk_below (g := gb129) (o := .cells #[.int .u64 a0_0, .int .u64 a0_1, .string t131] 24 (0, 0)) (by (with_reducible repeat (first | refine blk_drewN ?_ _ | refine blk_drew ?_ | refine blk_alloc ?_ _)); exact BK129.out) hb)
                have n1_ := Aside0.mk (blk_below (g := gb136) (o := .cells #[.int .u64 t132, .int .u64 t133, .string t134] 24 (0, 0)) (by (with_reducible repeat (first | refine blk_drewN ?_ _ | refine blk_drew ?_ | refine blk_alloc ?_ _)); exact BK136.out) hb)
                have n2_ := Aside0.mk (blk_below (g := gb141) (o := .cells #[.int .u64 t137, .int .u64 t138, .string t139] 24 (0, 0)) (by (with_reducible repeat (first | refine blk_drewN ?_ _ | refine blk_drew ?_ | refine blk_alloc ?_ _)); exact BK141.out) hb)
                have n3_ := Aside0.mk (blk_below (g := gb147) (o := .cells #[.int .u64 0, .int .u64 0, .string (⟨#[]⟩ : ByteArray)] 24 (0, 0)) (by (with_reducible repeat (first | refine blk_drewN ?_ _ | refine blk_drew ?_ | refine blk_alloc ?_ _)); exact BK147.out) hb)
                have n4_ := Aside0.mk (below_step (by repeat (first | (with_reducible first | exact HB.out | apply below_alloc | apply pw_below_drewN | apply below_drew1 | refine below_set ?_ GE129.out | refine below_set ?_ GE136.out | refine below_set ?_ GE141.out | refine below_set ?_ GE147.out) | exact HB.out)) hb)
                clear BK129
                clear BK136
                clear BK141
                clear BK147
                clear HB
                have BK129 := n0_
                have BK136 := n1_
                have BK141 := n2_
                have BK147 := n3_
                have HB := n4_
                clear n0_ n1_ n2_ n3_ n4_
                (try clear hb)
                (try clear hb2)
                (try clear hk)
                (try clear hi)
                refine hK.out _ _ ⟨(blk_cell BK129.out 0).trans rfl, (blk_cell BK129.out 1).trans rfl, (blk_cell BK129.out 2).trans rfl⟩ (fun hHeld => ?_)
                clear hK K
                refine norm_ (a' := ?_) ?_ ?_
                rotate_left
                · show Act.put _ (some 38) _ = _
                  simp only [Act.put, List.setIfInBounds_toArray, List.set_cons_zero, List.set_cons_succ, i64_w, i32_w]
                  rfl
                refine pure_ (i := 5) (N := some 33) (v := ?_) (a' := ?_) #[true, true, true, true, true, true, false, false, true, false, false] rfl rfl (any_of HT_.out (by kernel_rfl)) (fun _ _ _ h => h) (Or.inl ⟨by rfl, ?_⟩) ?_ ?_
                rotate_left
                · intro w'
                  go_simp
                  with_reducible rfl
                rotate_left
                · simp only [Act.put, List.setIfInBounds_toArray, List.set_cons_zero, List.set_cons_succ, i64_w, i32_w]
                  rfl
                refine pure_ (i := 6) (N := some 39) (v := ?_) (a' := ?_) #[true, true, true, true, true, true, true, false, true, false, false] rfl rfl (any_of HT_.out (by kernel_rfl)) (fun _ _ _ h => h) (Or.inl ⟨by rfl, ?_⟩) ?_ ?_
                rotate_left
                · intro w'
                  go_simp
                  with_reducible rfl
                rotate_left
                · simp only [Act.put, List.setIfInBounds_toArray, List.set_cons_zero, List.set_cons_succ, i64_w, i32_w]
                  rfl
                refine pure_ (i := 7) (N := some 40) (v := ?_) (a' := ?_) #[true, true, true, true, true, true, true, true, true, false, false] rfl rfl (any_of HT_.out (by kernel_rfl)) (fun _ _ _ h => h) (Or.inl ⟨by rfl, ?_⟩) ?_ ?_
                rotate_left
                · intro w'
                  go_simp
                  with_reducible rfl
                rotate_left
                · simp only [Act.put, List.setIfInBounds_toArray, List.set_cons_zero, List.set_cons_succ, i64_w, i32_w]
                  rfl
                exact norm_ (by simp only [putAll, Act.put, List.setIfInBounds_toArray, List.set_cons_zero, List.set_cons_succ]) (hCont (gb147) _ ⟨hHeld, (by (with_reducible repeat (first | refine blk_drewN ?_ _ | refine blk_drew ?_ | refine blk_alloc ?_ _)); exact BK129.out), (by (with_reducible repeat (first | refine blk_drewN ?_ _ | refine blk_drew ?_ | refine blk_alloc ?_ _)); exact BK136.out), (by (with_reducible repeat (first | refine blk_drewN ?_ _ | refine blk_drew ?_ | refine blk_alloc ?_ _)); exact BK141.out), (by (with_reducible repeat (first | refine blk_drewN ?_ _ | refine blk_drew ?_ | refine blk_alloc ?_ _)); exact BK147.out), GW147.out, GE147.out, NB129_147.out, NB147_129.out, NB136_147.out, NB147_136.out, NB141_147.out, NB147_141.out, (by repeat (first | (with_reducible first | exact HB.out | apply below_alloc | apply pw_below_drewN | apply below_drew1 | refine below_set ?_ GE129.out | refine below_set ?_ GE136.out | refine below_set ?_ GE141.out | refine below_set ?_ GE147.out) | exact HB.out))⟩)
            rintro gb147 w39 ⟨hS_, h0_, h1_, h2_, h3_, h4_, h5_, h6_, h7_, h8_, h9_, h10_, h11_, h12_⟩
            have n0_ : Aside0 (w39.heap[gb129]? = some (.cells #[.int .u64 a0_0, .int .u64 a0_1, .string t131] 24 (0, 0))) := ⟨h0_⟩
            have n1_ : Aside0 (w39.heap[gb136]? = some (.cells #[.int .u64 t132, .int .u64 t133, .string t134] 24 (0, 0))) := ⟨h1_⟩
            have n2_ : Aside0 (w39.heap[gb141]? = some (.cells #[.int .u64 t137, .int .u64 t138, .string t139] 24 (0, 0))) := ⟨h2_⟩
            have n3_ : Aside0 (w39.heap[gb147]? = some (.cells #[.int .u64 0, .int .u64 0, .string (⟨#[]⟩ : ByteArray)] 24 (0, 0))) := ⟨h3_⟩
            have n4_ : Aside0 (w.heap.size ≤ gb147) := ⟨h4_⟩
            have n5_ : Aside0 (w.heap.size ≤ gb147) := ⟨h5_⟩
            have n6_ : Aside0 (gb129 ≠ gb147) := ⟨h6_⟩
            have n7_ : Aside0 (gb147 ≠ gb129) := ⟨h7_⟩
            have n8_ : Aside0 (gb136 ≠ gb147) := ⟨h8_⟩
            have n9_ : Aside0 (gb147 ≠ gb136) := ⟨h9_⟩
            have n10_ : Aside0 (gb141 ≠ gb147) := ⟨h10_⟩
            have n11_ : Aside0 (gb147 ≠ gb141) := ⟨h11_⟩
            have n12_ : Aside0 (Below w.heap.size w w39) := ⟨h12_⟩
            clear BK129
            clear BK136
            clear BK141
            clear HB
            clear h0_ h1_ h2_ h3_ h4_ h5_ h6_ h7_ h8_ h9_ h10_ h11_ h12_
            have BK129 := n0_
            have BK136 := n1_
            have BK141 := n2_
            have BK147 := n3_
            have GW147 := n4_
            have GE147 := n5_
            have NB129_147 := n6_
            have NB147_129 := n7_
            have NB136_147 := n8_
            have NB147_136 := n9_
            have NB141_147 := n10_
            have NB147_141 := n11_
            have HB := n12_
            clear n0_ n1_ n2_ n3_ n4_ n5_ n6_ n7_ n8_ n9_ n10_ n11_ n12_
            have hHeld : w39.cell? ⟨gb129, 0, none⟩ = some (.int .u64 a0_0) ∧ w39.cell? ⟨gb129, 1, none⟩ = some (.int .u64 a0_1) ∧ w39.cell? ⟨gb129, 2, none⟩ = some (.string t131) := hS_
            refine norm_ (a' := ?_) ?_ ?_
            rotate_left
            · simp only [putAll, Act.put, List.setIfInBounds_toArray, List.set_cons_zero, List.set_cons_succ]
              rfl
            refine one_ (i := 9) (N := none) #[true, true, true, true, true, true, true, true, true, true, false] rfl rfl (one_of HT_.out (by kernel_rfl)) (by decide) (fun K hK => ?_)
            have hs40 : w39.cell? ⟨gb147, 0, none⟩ = some (.int .u64 0) := (blk_cell BK147.out 0).trans rfl
            have hfs40 := blk_frozen BK147.out 0
            have hns40_0 := NB129_147.out
            have hns40_1 := NB136_147.out
            have hns40_2 := NB141_147.out
            have hms40_0 := NB147_129.out
            have hms40_1 := NB147_136.out
            have hms40_2 := NB147_141.out
            have hs41 : w39.cell? ⟨gb147, 1, none⟩ = some (.int .u64 0) := (blk_cell BK147.out 1).trans rfl
            have hfs41 := blk_frozen BK147.out 1
            have hns41_0 := NB129_147.out
            have hns41_1 := NB136_147.out
            have hns41_2 := NB141_147.out
            have hms41_0 := NB147_129.out
            have hms41_1 := NB147_136.out
            have hms41_2 := NB147_141.out
            have hs42 : w39.cell? ⟨gb147, 2, none⟩ = some (.string (⟨#[]⟩ : ByteArray)) := (blk_cell BK147.out 2).trans rfl
            have hfs42 := blk_frozen BK147.out 2
            have hns42_0 := NB129_147.out
            have hns42_1 := NB136_147.out
            have hns42_2 := NB141_147.out
            have hms42_0 := NB147_129.out
            have hms42_1 := NB147_136.out
            have hms42_2 := NB147_141.out
            refine skip_ (w1 := ?_) (by rfl) rfl ?_ ?_
            rotate_left
            · go_simp
              rfl
            refine hK.out _ _ ⟨((cell_far (p := ⟨gb147, _, none⟩) NB129_147.out _).trans (((cell_far (p := ⟨gb147, _, none⟩) NB129_147.out _).trans (((cell_far (p := ⟨gb147, _, none⟩) NB129_147.out _).trans (hHeld.1)))))), ((cell_far (p := ⟨gb147, _, none⟩) NB129_147.out _).trans (((cell_far (p := ⟨gb147, _, none⟩) NB129_147.out _).trans (((cell_far (p := ⟨gb147, _, none⟩) NB129_147.out _).trans (hHeld.2.1)))))), ((cell_far (p := ⟨gb147, _, none⟩) NB129_147.out _).trans (((cell_far (p := ⟨gb147, _, none⟩) NB129_147.out _).trans (((cell_far (p := ⟨gb147, _, none⟩) NB129_147.out _).trans (hHeld.2.2))))))⟩ (fun hHeld => ?_)
            clear hK K
            refine pure_ (i := 10) (N := some 13) (v := ?_) (a' := ?_) #[true, true, true, true, true, true, true, true, true, true, true] rfl rfl (any_of HT_.out (by kernel_rfl)) (fun _ _ _ h => h) (Or.inl ⟨by rfl, ?_⟩) ?_ ?_
            rotate_left
            · intro w'
              go_simp
              with_reducible rfl
            rotate_left
            · simp only [Act.put, List.setIfInBounds_toArray, List.set_cons_zero, List.set_cons_succ, i64_w, i32_w]
              rfl
            refine done_ (done_of HT_.out (by kernel_rfl)) ?_
            try go_wp2
            have n0_ : Aside0 ((((w39.setCell ⟨gb147, 0, none⟩ (.int .u64 t143)).setCell ⟨gb147, 1, none⟩ (.int .u64 t144)).setCell ⟨gb147, 2, none⟩ (.string t145)).heap[gb129]? = some (.cells #[.int .u64 a0_0, .int .u64 a0_1, .string t131] 24 (0, 0))) := ⟨by (with_reducible repeat (first | refine blk_drewN ?_ _ | refine blk_drew ?_ | refine blk_alloc ?_ _)); refine blk_far ?_ NB129_147.out _; (with_reducible repeat (first | refine blk_drewN ?_ _ | refine blk_drew ?_ | refine blk_alloc ?_ _)); refine blk_far ?_ NB129_147.out _; (with_reducible repeat (first | refine blk_drewN ?_ _ | refine blk_drew ?_ | refine blk_alloc ?_ _)); refine blk_far ?_ NB129_147.out _; (with_reducible repeat (first | refine blk_drewN ?_ _ | refine blk_drew ?_ | refine blk_alloc ?_ _)); exact BK129.out⟩
            have n1_ : Aside0 ((((w39.setCell ⟨gb147, 0, none⟩ (.int .u64 t143)).setCell ⟨gb147, 1, none⟩ (.int .u64 t144)).setCell ⟨gb147, 2, none⟩ (.string t145)).heap[gb136]? = some (.cells #[.int .u64 t132, .int .u64 t133, .string t134] 24 (0, 0))) := ⟨by (with_reducible repeat (first | refine blk_drewN ?_ _ | refine blk_drew ?_ | refine blk_alloc ?_ _)); refine blk_far ?_ NB136_147.out _; (with_reducible repeat (first | refine blk_drewN ?_ _ | refine blk_drew ?_ | refine blk_alloc ?_ _)); refine blk_far ?_ NB136_147.out _; (with_reducible repeat (first | refine blk_drewN ?_ _ | refine blk_drew ?_ | refine blk_alloc ?_ _)); refine blk_far ?_ NB136_147.out _; (with_reducible repeat (first | refine blk_drewN ?_ _ | refine blk_drew ?_ | refine blk_alloc ?_ _)); exact BK136.out⟩
            have n2_ : Aside0 ((((w39.setCell ⟨gb147, 0, none⟩ (.int .u64 t143)).setCell ⟨gb147, 1, none⟩ (.int .u64 t144)).setCell ⟨gb147, 2, none⟩ (.string t145)).heap[gb141]? = some (.cells #[.int .u64 t137, .int .u64 t138, .string t139] 24 (0, 0))) := ⟨by (with_reducible repeat (first | refine blk_drewN ?_ _ | refine blk_drew ?_ | refine blk_alloc ?_ _)); refine blk_far ?_ NB141_147.out _; (with_reducible repeat (first | refine blk_drewN ?_ _ | refine blk_drew ?_ | refine blk_alloc ?_ _)); refine blk_far ?_ NB141_147.out _; (with_reducible repeat (first | refine blk_drewN ?_ _ | refine blk_drew ?_ | refine blk_alloc ?_ _)); refine blk_far ?_ NB141_147.out _; (with_reducible repeat (first | refine blk_drewN ?_ _ | refine blk_drew ?_ | refine blk_alloc ?_ _)); exact BK141.out⟩
            have n3_ : Aside0 ((((w39.setCell ⟨gb147, 0, none⟩ (.int .u64 t143)).setCell ⟨gb147, 1, none⟩ (.int .u64 t144)).setCell ⟨gb147, 2, none⟩ (.string t145)).heap[gb147]? = some (.cells #[.int .u64 t143, .int .u64 t144, .string t145] 24 (0, 0))) := ⟨by (with_reducible repeat (first | refine blk_drewN ?_ _ | refine blk_drew ?_ | refine blk_alloc ?_ _)); refine blk_put (cs := #[.int .u64 t143, .int .u64 t144, .string (⟨#[]⟩ : ByteArray)]) ?_ 2 _ rfl; (with_reducible repeat (first | refine blk_drewN ?_ _ | refine blk_drew ?_ | refine blk_alloc ?_ _)); refine blk_put (cs := #[.int .u64 t143, .int .u64 0, .string (⟨#[]⟩ : ByteArray)]) ?_ 1 _ rfl; (with_reducible repeat (first | refine blk_drewN ?_ _ | refine blk_drew ?_ | refine blk_alloc ?_ _)); refine blk_put (cs := #[.int .u64 0, .int .u64 0, .string (⟨#[]⟩ : ByteArray)]) ?_ 0 _ rfl; (with_reducible repeat (first | refine blk_drewN ?_ _ | refine blk_drew ?_ | refine blk_alloc ?_ _)); exact BK147.out⟩
            have n4_ : Aside0 (Below w.heap.size w (((w39.setCell ⟨gb147, 0, none⟩ (.int .u64 t143)).setCell ⟨gb147, 1, none⟩ (.int .u64 t144)).setCell ⟨gb147, 2, none⟩ (.string t145))) := ⟨by repeat (first | (with_reducible first | exact HB.out | apply below_alloc | apply pw_below_drewN | apply below_drew1 | refine below_set ?_ GE129.out | refine below_set ?_ GE136.out | refine below_set ?_ GE141.out | refine below_set ?_ GE147.out) | exact HB.out)⟩
            (try clear BK129)
            (try clear BK136)
            (try clear BK141)
            (try clear BK147)
            (try clear HB)
            generalize (((w39.setCell ⟨gb147, 0, none⟩ (.int .u64 t143)).setCell ⟨gb147, 1, none⟩ (.int .u64 t144)).setCell ⟨gb147, 2, none⟩ (.string t145)) = w43 at n0_ n1_ n2_ n3_ n4_ ⊢
            have BK129 := n0_
            have BK136 := n1_
            have BK141 := n2_
            have BK147 := n3_
            have HB := n4_
            clear n0_ n1_ n2_ n3_ n4_
            have n0_ := Aside0.mk (blk_drew BK129.out)
            have n1_ := Aside0.mk (blk_drew BK136.out)
            have n2_ := Aside0.mk (blk_drew BK141.out)
            have n3_ := Aside0.mk (blk_drew BK147.out)
            have n4_ := Aside0.mk (below_drew1 HB.out)
            clear BK129
            clear BK136
            clear BK141
            clear BK147
            clear HB
            have BK129 := n0_
            have BK136 := n1_
            have BK141 := n2_
            have BK147 := n3_
            have HB := n4_
            clear n0_ n1_ n2_ n3_ n4_
            refine start_ (n := 11) (S := fun w' => w'.cell? ⟨gb129, 0, none⟩ = some (.int .u64 a0_0) ∧ w'.cell? ⟨gb129, 1, none⟩ = some (.int .u64 a0_1) ∧ w'.cell? ⟨gb129, 2, none⟩ = some (.string t131)) (ds := []) #[false, false, false, false, false, false, false, false, false, false, false] (by kernel_rfl) rfl rfl ⟨(blk_cell BK129.out 0).trans rfl, (blk_cell BK129.out 1).trans rfl, (blk_cell BK129.out 2).trans rfl⟩ (fun hHeld => ?_); refine with_tabW rostrumlaw08_BallotVotes.tab6 rostrumlaw08_BallotVotes.bits6 (fun HT_ HW_ => ?_)
            generalize w43.drew = w44 at BK129 BK136 BK141 BK147 HB hHeld ⊢
            refine pure_ (i := 1) (N := some 43) (v := ?_) (a' := ?_) #[false, true, false, false, false, false, false, false, false, false, false] rfl rfl (any_of HT_.out (by kernel_rfl)) (fun _ _ _ h => h) (Or.inl ⟨by rfl, ?_⟩) ?_ ?_
            rotate_left
            · intro w'
              go_simp
              with_reducible rfl
            rotate_left
            · simp only [Act.put, List.setIfInBounds_toArray, List.set_cons_zero, List.set_cons_succ, i64_w, i32_w]
              rfl
            refine pure_ (i := 2) (N := some 44) (v := ?_) (a' := ?_) #[false, true, true, false, false, false, false, false, false, false, false] rfl rfl (any_of HT_.out (by kernel_rfl)) (fun _ _ _ h => h) (Or.inl ⟨by rfl, ?_⟩) ?_ ?_
            rotate_left
            · intro w'
              go_simp
              with_reducible rfl
            rotate_left
            · simp only [Act.put, List.setIfInBounds_toArray, List.set_cons_zero, List.set_cons_succ, i64_w, i32_w]
              rfl
            refine take_ (i := 0) (N := some 42) (v := ?_) (a' := ?_) #[true, true, true, false, false, false, false, false, false, false, false] rfl rfl (take_ofW HT_.out HW_.out (by kernel_rfl)) (fun _ _ _ h => h) (Or.inl ⟨by rfl, ?_⟩) hHeld ?_ ?_
            rotate_left
            · rintro w' ⟨s0, s1, s2⟩
              go_simp
              with_reducible rfl
            rotate_left
            · simp only [Act.put, List.setIfInBounds_toArray, List.set_cons_zero, List.set_cons_succ, i64_w, i32_w]
              rfl
            refine join_ (σ := Nat) 2 #[true, true, true, true, true, true, true, true, true, false, false] (fun s_ => [(45, .string t148), (46, .tuple #[.agg #[.int .u64 t149, .int .u64 t150, .string t151], .int .i64 t152]), (14, .pointer (some ⟨s_, 0, none⟩)), (41, .tuple #[.agg #[.int .u64 t149, .int .u64 t150, .string t151], .int .i64 t152]), (47, .agg #[.int .u64 t149, .int .u64 t150, .string t151]), (48, .int .i64 t152)]) (fun s_ w' => (w'.cell? ⟨gb129, 0, none⟩ = some (.int .u64 a0_0) ∧ w'.cell? ⟨gb129, 1, none⟩ = some (.int .u64 a0_1) ∧ w'.cell? ⟨gb129, 2, none⟩ = some (.string t131)) ∧ (w'.heap[gb129]? = some (.cells #[.int .u64 a0_0, .int .u64 a0_1, .string t131] 24 (0, 0))) ∧ (w'.heap[gb136]? = some (.cells #[.int .u64 t132, .int .u64 t133, .string t134] 24 (0, 0))) ∧ (w'.heap[gb141]? = some (.cells #[.int .u64 t137, .int .u64 t138, .string t139] 24 (0, 0))) ∧ (w'.heap[gb147]? = some (.cells #[.int .u64 t143, .int .u64 t144, .string t145] 24 (0, 0))) ∧ (w'.heap[s_]? = some (.cells #[.int .u64 0, .int .u64 0, .string (⟨#[]⟩ : ByteArray)] 24 (0, 0))) ∧ (w.heap.size ≤ s_) ∧ (w.heap.size ≤ s_) ∧ (gb129 ≠ s_) ∧ (s_ ≠ gb129) ∧ (gb136 ≠ s_) ∧ (s_ ≠ gb136) ∧ (gb141 ≠ s_) ∧ (s_ ≠ gb141) ∧ (gb147 ≠ s_) ∧ (s_ ≠ gb147) ∧ (Below w.heap.size w w')) ?_ ?_
            rotate_left
            · intro hCont
              refine two_ (i := 3) (j := 8) (Ni := some 45) (Nj := some 14) #[true, true, true, true, false, false, false, false, false, false, false] #[true, true, true, false, false, false, false, false, true, false, false] rfl rfl rfl rfl (two_of HT_.out (by kernel_rfl)) (by decide) (by decide) (fun K hK => ?_) (fun K hK => ?_)
              · skip
                refine goes_ Try.func11 (by kernel_rfl) rfl #[.string a2] (by rfl) rfl rfl (by (try simp only [List.map_toArray, List.map_cons, List.map_nil]); first | done | rfl | (simp only [List.length_drop, List.length_take]; rfl)) ?_
                with_reducible refine (rostrumlaw08_cut.calls a2 t148 _ A10.out).mono ?_
                rintro e w45 ⟨rfl, hb⟩
                refine ⟨_, rfl, ?_⟩
                have n0_ := Aside0.mk (blk_below (g := gb129) (o := .cells #[.int .u64 a0_0, .int .u64 a0_1, .string t131] 24 (0, 0)) (by (with_reducible repeat (first | refine blk_drewN ?_ _ | refine blk_drew ?_ | refine blk_alloc ?_ _)); exact BK129.out) hb)
                have n1_ := Aside0.mk (blk_below (g := gb136) (o := .cells #[.int .u64 t132, .int .u64 t133, .string t134] 24 (0, 0)) (by (with_reducible repeat (first | refine blk_drewN ?_ _ | refine blk_drew ?_ | refine blk_alloc ?_ _)); exact BK136.out) hb)
                have n2_ := Aside0.mk (blk_below (g := gb141) (o := .cells #[.int .u64 t137, .int .u64 t138, .string t139] 24 (0, 0)) (by (with_reducible repeat (first | refine blk_drewN ?_ _ | refine blk_drew ?_ | refine blk_alloc ?_ _)); exact BK141.out) hb)
                have n3_ := Aside0.mk (blk_below (g := gb147) (o := .cells #[.int .u64 t143, .int .u64 t144, .string t145] 24 (0, 0)) (by (with_reducible repeat (first | refine blk_drewN ?_ _ | refine blk_drew ?_ | refine blk_alloc ?_ _)); exact BK147.out) hb)
                have n4_ := Aside0.mk (below_step (by repeat (first | (with_reducible first | exact HB.out | apply below_alloc | apply pw_below_drewN | apply below_drew1 | refine below_set ?_ GE129.out | refine below_set ?_ GE136.out | refine below_set ?_ GE141.out | refine below_set ?_ GE147.out) | exact HB.out)) hb)
                clear BK129
                clear BK136
                clear BK141
                clear BK147
                clear HB
                have BK129 := n0_
                have BK136 := n1_
                have BK141 := n2_
                have BK147 := n3_
                have HB := n4_
                clear n0_ n1_ n2_ n3_ n4_
                (try clear hb)
                (try clear hb2)
                (try clear hk)
                (try clear hi)
                refine hK.out _ _ ⟨(blk_cell BK129.out 0).trans rfl, (blk_cell BK129.out 1).trans rfl, (blk_cell BK129.out 2).trans rfl⟩ (fun hHeld => ?_)
                clear hK K
                refine norm_ (a' := ?_) ?_ ?_
                rotate_left
                · show Act.put _ (some 45) _ = _
                  simp only [Act.put, List.setIfInBounds_toArray, List.set_cons_zero, List.set_cons_succ, i64_w, i32_w]
                  rfl
                refine two_ (i := 4) (j := 8) (Ni := some 46) (Nj := some 14) #[true, true, true, true, true, false, false, false, false, false, false] #[true, true, true, true, false, false, false, false, true, false, false] rfl rfl rfl rfl (two_of HT_.out (by kernel_rfl)) (by decide) (by decide) (fun K hK => ?_) (fun K hK => ?_)
                · skip
                  refine goes_ Try.func15 (by kernel_rfl) rfl #[.agg #[.int .u64 a0_0, .int .u64 a0_1, .string t131], .int .u64 a1, .string t148] (by rfl) rfl rfl (by (try simp only [List.map_toArray, List.map_cons, List.map_nil]); first | done | rfl | (simp only [List.length_drop, List.length_take]; rfl)) ?_
                  with_reducible refine (rostrumref08_Cast.calls k a0_0 a0_1 t131 a1 t148 t149 t150 t151 t152 _ A11.out).mono ?_
                  rintro e w46 ⟨rfl, hb⟩
                  refine ⟨_, rfl, ?_⟩
                  have n0_ := Aside0.mk (blk_below (g := gb129) (o := .cells #[.int .u64 a0_0, .int .u64 a0_1, .string t131] 24 (0, 0)) (by (with_reducible repeat (first | refine blk_drewN ?_ _ | refine blk_drew ?_ | refine blk_alloc ?_ _)); exact BK129.out) hb)
                  have n1_ := Aside0.mk (blk_below (g := gb136) (o := .cells #[.int .u64 t132, .int .u64 t133, .string t134] 24 (0, 0)) (by (with_reducible repeat (first | refine blk_drewN ?_ _ | refine blk_drew ?_ | refine blk_alloc ?_ _)); exact BK136.out) hb)
                  have n2_ := Aside0.mk (blk_below (g := gb141) (o := .cells #[.int .u64 t137, .int .u64 t138, .string t139] 24 (0, 0)) (by (with_reducible repeat (first | refine blk_drewN ?_ _ | refine blk_drew ?_ | refine blk_alloc ?_ _)); exact BK141.out) hb)
                  have n3_ := Aside0.mk (blk_below (g := gb147) (o := .cells #[.int .u64 t143, .int .u64 t144, .string t145] 24 (0, 0)) (by (with_reducible repeat (first | refine blk_drewN ?_ _ | refine blk_drew ?_ | refine blk_alloc ?_ _)); exact BK147.out) hb)
                  have n4_ := Aside0.mk (below_step (by repeat (first | (with_reducible first | exact HB.out | apply below_alloc | apply pw_below_drewN | apply below_drew1 | refine below_set ?_ GE129.out | refine below_set ?_ GE136.out | refine below_set ?_ GE141.out | refine below_set ?_ GE147.out) | exact HB.out)) hb)
                  clear BK129
                  clear BK136
                  clear BK141
                  clear BK147
                  clear HB
                  have BK129 := n0_
                  have BK136 := n1_
                  have BK141 := n2_
                  have BK147 := n3_
                  have HB := n4_
                  clear n0_ n1_ n2_ n3_ n4_
                  (try clear hb)
                  (try clear hb2)
                  (try clear hk)
                  (try clear hi)
                  refine hK.out _ _ ⟨(blk_cell BK129.out 0).trans rfl, (blk_cell BK129.out 1).trans rfl, (blk_cell BK129.out 2).trans rfl⟩ (fun hHeld => ?_)
                  clear hK K
                  refine norm_ (a' := ?_) ?_ ?_
                  rotate_left
                  · show Act.put _ (some 46) _ = _
                    simp only [Act.put, List.setIfInBounds_toArray, List.set_cons_zero, List.set_cons_succ, i64_w, i32_w]
                    rfl
                  refine pure_ (i := 5) (N := some 41) (v := ?_) (a' := ?_) #[true, true, true, true, true, true, false, false, false, false, false] rfl rfl (any_of HT_.out (by kernel_rfl)) (fun _ _ _ h => h) (Or.inl ⟨by rfl, ?_⟩) ?_ ?_
                  rotate_left
                  · intro w'
                    go_simp
                    with_reducible rfl
                  rotate_left
                  · simp only [Act.put, List.setIfInBounds_toArray, List.set_cons_zero, List.set_cons_succ, i64_w, i32_w]
                    rfl
                  refine pure_ (i := 6) (N := some 47) (v := ?_) (a' := ?_) #[true, true, true, true, true, true, true, false, false, false, false] rfl rfl (any_of HT_.out (by kernel_rfl)) (fun _ _ _ h => h) (Or.inl ⟨by rfl, ?_⟩) ?_ ?_
                  rotate_left
                  · intro w'
                    go_simp
                    with_reducible rfl
                  rotate_left
                  · simp only [Act.put, List.setIfInBounds_toArray, List.set_cons_zero, List.set_cons_succ, i64_w, i32_w]
                    rfl
                  refine pure_ (i := 7) (N := some 48) (v := ?_) (a' := ?_) #[true, true, true, true, true, true, true, true, false, false, false] rfl rfl (any_of HT_.out (by kernel_rfl)) (fun _ _ _ h => h) (Or.inl ⟨by rfl, ?_⟩) ?_ ?_
                  rotate_left
                  · intro w'
                    go_simp
                    with_reducible rfl
                  rotate_left
                  · simp only [Act.put, List.setIfInBounds_toArray, List.set_cons_zero, List.set_cons_succ, i64_w, i32_w]
                    rfl
                  refine one_ (i := 8) (N := some 14) #[true, true, true, true, true, true, true, true, true, false, false] rfl rfl (one_of HT_.out (by kernel_rfl)) (by decide) (fun K hK => ?_)
                  refine box_step ?hg (N := 14) ?hd (cs := #[.int .u64 0, .int .u64 0, .string (⟨#[]⟩ : ByteArray)]) (t := 24) ?hr ?_; (case hd => rfl); (case hg => rfl); (case hr => first | (go_simp; done) | (go_simp; rfl))
                  intro gb153 hg w47 hbox hb
                  have n0_ := Aside0.mk (blk_below (g := gb129) (o := .cells #[.int .u64 a0_0, .int .u64 a0_1, .string t131] 24 (0, 0)) (by (with_reducible repeat (first | refine blk_drewN ?_ _ | refine blk_drew ?_ | refine blk_alloc ?_ _)); exact BK129.out) hb)
                  have n1_ := Aside0.mk (blk_below (g := gb136) (o := .cells #[.int .u64 t132, .int .u64 t133, .string t134] 24 (0, 0)) (by (with_reducible repeat (first | refine blk_drewN ?_ _ | refine blk_drew ?_ | refine blk_alloc ?_ _)); exact BK136.out) hb)
                  have n2_ := Aside0.mk (blk_below (g := gb141) (o := .cells #[.int .u64 t137, .int .u64 t138, .string t139] 24 (0, 0)) (by (with_reducible repeat (first | refine blk_drewN ?_ _ | refine blk_drew ?_ | refine blk_alloc ?_ _)); exact BK141.out) hb)
                  have n3_ := Aside0.mk (blk_below (g := gb147) (o := .cells #[.int .u64 t143, .int .u64 t144, .string t145] 24 (0, 0)) (by (with_reducible repeat (first | refine blk_drewN ?_ _ | refine blk_drew ?_ | refine blk_alloc ?_ _)); exact BK147.out) hb)
                  have n4_ := Aside0.mk (below_step (by repeat (first | (with_reducible first | exact HB.out | apply below_alloc | apply pw_below_drewN | apply below_drew1 | refine below_set ?_ GE129.out | refine below_set ?_ GE136.out | refine below_set ?_ GE141.out | refine below_set ?_ GE147.out) | exact HB.out)) hb)
                  have n5_ := Aside0.mk (hbox)
                  have n6_ := Aside0.mk ((by rw [hg]; exact (below_size (by repeat (first | (with_reducible first | exact HB.out | apply below_alloc | apply pw_below_drewN | apply below_drew1 | refine below_set ?_ GE129.out | refine below_set ?_ GE136.out | refine below_set ?_ GE141.out | refine below_set ?_ GE147.out) | exact HB.out))) : w.heap.size ≤ gb153))
                  have n7_ := Aside0.mk ((by rw [hg]; exact (below_size (by repeat (first | (with_reducible first | exact HB.out | apply below_alloc | apply pw_below_drewN | apply below_drew1 | refine below_set ?_ GE129.out | refine below_set ?_ GE136.out | refine below_set ?_ GE141.out | refine below_set ?_ GE147.out) | exact HB.out))) : w.heap.size ≤ gb153))
                  have n8_ := Aside0.mk ((by rw [hg]; exact Nat.ne_of_lt (blk_lt (g := gb129) (o := .cells #[.int .u64 a0_0, .int .u64 a0_1, .string t131] 24 (0, 0)) (by (with_reducible repeat (first | refine blk_drewN ?_ _ | refine blk_drew ?_ | refine blk_alloc ?_ _)); exact BK129.out)) : gb129 ≠ gb153))
                  have n9_ := Aside0.mk ((by rw [hg]; exact Nat.ne_of_gt (blk_lt (g := gb129) (o := .cells #[.int .u64 a0_0, .int .u64 a0_1, .string t131] 24 (0, 0)) (by (with_reducible repeat (first | refine blk_drewN ?_ _ | refine blk_drew ?_ | refine blk_alloc ?_ _)); exact BK129.out)) : gb153 ≠ gb129))
                  have n10_ := Aside0.mk ((by rw [hg]; exact Nat.ne_of_lt (blk_lt (g := gb136) (o := .cells #[.int .u64 t132, .int .u64 t133, .string t134] 24 (0, 0)) (by (with_reducible repeat (first | refine blk_drewN ?_ _ | refine blk_drew ?_ | refine blk_alloc ?_ _)); exact BK136.out)) : gb136 ≠ gb153))
                  have n11_ := Aside0.mk ((by rw [hg]; exact Nat.ne_of_gt (blk_lt (g := gb136) (o := .cells #[.int .u64 t132, .int .u64 t133, .string t134] 24 (0, 0)) (by (with_reducible repeat (first | refine blk_drewN ?_ _ | refine blk_drew ?_ | refine blk_alloc ?_ _)); exact BK136.out)) : gb153 ≠ gb136))
                  have n12_ := Aside0.mk ((by rw [hg]; exact Nat.ne_of_lt (blk_lt (g := gb141) (o := .cells #[.int .u64 t137, .int .u64 t138, .string t139] 24 (0, 0)) (by (with_reducible repeat (first | refine blk_drewN ?_ _ | refine blk_drew ?_ | refine blk_alloc ?_ _)); exact BK141.out)) : gb141 ≠ gb153))
                  have n13_ := Aside0.mk ((by rw [hg]; exact Nat.ne_of_gt (blk_lt (g := gb141) (o := .cells #[.int .u64 t137, .int .u64 t138, .string t139] 24 (0, 0)) (by (with_reducible repeat (first | refine blk_drewN ?_ _ | refine blk_drew ?_ | refine blk_alloc ?_ _)); exact BK141.out)) : gb153 ≠ gb141))
                  have n14_ := Aside0.mk ((by rw [hg]; exact Nat.ne_of_lt (blk_lt (g := gb147) (o := .cells #[.int .u64 t143, .int .u64 t144, .string t145] 24 (0, 0)) (by (with_reducible repeat (first | refine blk_drewN ?_ _ | refine blk_drew ?_ | refine blk_alloc ?_ _)); exact BK147.out)) : gb147 ≠ gb153))
                  have n15_ := Aside0.mk ((by rw [hg]; exact Nat.ne_of_gt (blk_lt (g := gb147) (o := .cells #[.int .u64 t143, .int .u64 t144, .string t145] 24 (0, 0)) (by (with_reducible repeat (first | refine blk_drewN ?_ _ | refine blk_drew ?_ | refine blk_alloc ?_ _)); exact BK147.out)) : gb153 ≠ gb147))
                  clear BK129
                  clear BK136
                  clear BK141
                  clear BK147
                  clear HB
                  have BK129 := n0_
                  have BK136 := n1_
                  have BK141 := n2_
                  have BK147 := n3_
                  have HB := n4_
                  have BK153 := n5_
                  have GW153 := n6_
                  have GE153 := n7_
                  have NB129_153 := n8_
                  have NB153_129 := n9_
                  have NB136_153 := n10_
                  have NB153_136 := n11_
                  have NB141_153 := n12_
                  have NB153_141 := n13_
                  have NB147_153 := n14_
                  have NB153_147 := n15_
                  clear n0_ n1_ n2_ n3_ n4_ n5_ n6_ n7_ n8_ n9_ n10_ n11_ n12_ n13_ n14_ n15_
                  clear hb hbox hg
                  refine hK.out _ _ ⟨(blk_cell BK129.out 0).trans rfl, (blk_cell BK129.out 1).trans rfl, (blk_cell BK129.out 2).trans rfl⟩ (fun hHeld => ?_)
                  clear hK K
                  refine norm_ (a' := ?_) ?_ ?_
                  rotate_left
                  · show Act.put _ (some 14) _ = _
                    simp only [Act.put, List.setIfInBounds_toArray, List.set_cons_zero, List.set_cons_succ, i64_w, i32_w]
                    rfl
                  exact norm_ (by simp only [putAll, Act.put, List.setIfInBounds_toArray, List.set_cons_zero, List.set_cons_succ]) (hCont (gb153) _ ⟨hHeld, (by (with_reducible repeat (first | refine blk_drewN ?_ _ | refine blk_drew ?_ | refine blk_alloc ?_ _)); exact BK129.out), (by (with_reducible repeat (first | refine blk_drewN ?_ _ | refine blk_drew ?_ | refine blk_alloc ?_ _)); exact BK136.out), (by (with_reducible repeat (first | refine blk_drewN ?_ _ | refine blk_drew ?_ | refine blk_alloc ?_ _)); exact BK141.out), (by (with_reducible repeat (first | refine blk_drewN ?_ _ | refine blk_drew ?_ | refine blk_alloc ?_ _)); exact BK147.out), (by (with_reducible repeat (first | refine blk_drewN ?_ _ | refine blk_drew ?_ | refine blk_alloc ?_ _)); exact BK153.out), GW153.out, GE153.out, NB129_153.out, NB153_129.out, NB136_153.out, NB153_136.out, NB141_153.out, NB153_141.out, NB147_153.out, NB153_147.out, (by repeat (first | (with_reducible first | exact HB.out | apply below_alloc | apply pw_below_drewN | apply below_drew1 | refine below_set ?_ GE129.out | refine below_set ?_ GE136.out | refine below_set ?_ GE141.out | refine below_set ?_ GE147.out | refine below_set ?_ GE153.out) | exact HB.out))⟩)
                · skip
                  refine box_step ?hg (N := 14) ?hd (cs := #[.int .u64 0, .int .u64 0, .string (⟨#[]⟩ : ByteArray)]) (t := 24) ?hr ?_; (case hd => rfl); (case hg => rfl); (case hr => first | (go_simp; done) | (go_simp; rfl))
                  intro gb153 hg w46 hbox hb
                  have n0_ := Aside0.mk (blk_below (g := gb129) (o := .cells #[.int .u64 a0_0, .int .u64 a0_1, .string t131] 24 (0, 0)) (by (with_reducible repeat (first | refine blk_drewN ?_ _ | refine blk_drew ?_ | refine blk_alloc ?_ _)); exact BK129.out) hb)
                  have n1_ := Aside0.mk (blk_below (g := gb136) (o := .cells #[.int .u64 t132, .int .u64 t133, .string t134] 24 (0, 0)) (by (with_reducible repeat (first | refine blk_drewN ?_ _ | refine blk_drew ?_ | refine blk_alloc ?_ _)); exact BK136.out) hb)
                  have n2_ := Aside0.mk (blk_below (g := gb141) (o := .cells #[.int .u64 t137, .int .u64 t138, .string t139] 24 (0, 0)) (by (with_reducible repeat (first | refine blk_drewN ?_ _ | refine blk_drew ?_ | refine blk_alloc ?_ _)); exact BK141.out) hb)
                  have n3_ := Aside0.mk (blk_below (g := gb147) (o := .cells #[.int .u64 t143, .int .u64 t144, .string t145] 24 (0, 0)) (by (with_reducible repeat (first | refine blk_drewN ?_ _ | refine blk_drew ?_ | refine blk_alloc ?_ _)); exact BK147.out) hb)
                  have n4_ := Aside0.mk (below_step (by repeat (first | (with_reducible first | exact HB.out | apply below_alloc | apply pw_below_drewN | apply below_drew1 | refine below_set ?_ GE129.out | refine below_set ?_ GE136.out | refine below_set ?_ GE141.out | refine below_set ?_ GE147.out) | exact HB.out)) hb)
                  have n5_ := Aside0.mk (hbox)
                  have n6_ := Aside0.mk ((by rw [hg]; exact (below_size (by repeat (first | (with_reducible first | exact HB.out | apply below_alloc | apply pw_below_drewN | apply below_drew1 | refine below_set ?_ GE129.out | refine below_set ?_ GE136.out | refine below_set ?_ GE141.out | refine below_set ?_ GE147.out) | exact HB.out))) : w.heap.size ≤ gb153))
                  have n7_ := Aside0.mk ((by rw [hg]; exact (below_size (by repeat (first | (with_reducible first | exact HB.out | apply below_alloc | apply pw_below_drewN | apply below_drew1 | refine below_set ?_ GE129.out | refine below_set ?_ GE136.out | refine below_set ?_ GE141.out | refine below_set ?_ GE147.out) | exact HB.out))) : w.heap.size ≤ gb153))
                  have n8_ := Aside0.mk ((by rw [hg]; exact Nat.ne_of_lt (blk_lt (g := gb129) (o := .cells #[.int .u64 a0_0, .int .u64 a0_1, .string t131] 24 (0, 0)) (by (with_reducible repeat (first | refine blk_drewN ?_ _ | refine blk_drew ?_ | refine blk_alloc ?_ _)); exact BK129.out)) : gb129 ≠ gb153))
                  have n9_ := Aside0.mk ((by rw [hg]; exact Nat.ne_of_gt (blk_lt (g := gb129) (o := .cells #[.int .u64 a0_0, .int .u64 a0_1, .string t131] 24 (0, 0)) (by (with_reducible repeat (first | refine blk_drewN ?_ _ | refine blk_drew ?_ | refine blk_alloc ?_ _)); exact BK129.out)) : gb153 ≠ gb129))
                  have n10_ := Aside0.mk ((by rw [hg]; exact Nat.ne_of_lt (blk_lt (g := gb136) (o := .cells #[.int .u64 t132, .int .u64 t133, .string t134] 24 (0, 0)) (by (with_reducible repeat (first | refine blk_drewN ?_ _ | refine blk_drew ?_ | refine blk_alloc ?_ _)); exact BK136.out)) : gb136 ≠ gb153))
                  have n11_ := Aside0.mk ((by rw [hg]; exact Nat.ne_of_gt (blk_lt (g := gb136) (o := .cells #[.int .u64 t132, .int .u64 t133, .string t134] 24 (0, 0)) (by (with_reducible repeat (first | refine blk_drewN ?_ _ | refine blk_drew ?_ | refine blk_alloc ?_ _)); exact BK136.out)) : gb153 ≠ gb136))
                  have n12_ := Aside0.mk ((by rw [hg]; exact Nat.ne_of_lt (blk_lt (g := gb141) (o := .cells #[.int .u64 t137, .int .u64 t138, .string t139] 24 (0, 0)) (by (with_reducible repeat (first | refine blk_drewN ?_ _ | refine blk_drew ?_ | refine blk_alloc ?_ _)); exact BK141.out)) : gb141 ≠ gb153))
                  have n13_ := Aside0.mk ((by rw [hg]; exact Nat.ne_of_gt (blk_lt (g := gb141) (o := .cells #[.int .u64 t137, .int .u64 t138, .string t139] 24 (0, 0)) (by (with_reducible repeat (first | refine blk_drewN ?_ _ | refine blk_drew ?_ | refine blk_alloc ?_ _)); exact BK141.out)) : gb153 ≠ gb141))
                  have n14_ := Aside0.mk ((by rw [hg]; exact Nat.ne_of_lt (blk_lt (g := gb147) (o := .cells #[.int .u64 t143, .int .u64 t144, .string t145] 24 (0, 0)) (by (with_reducible repeat (first | refine blk_drewN ?_ _ | refine blk_drew ?_ | refine blk_alloc ?_ _)); exact BK147.out)) : gb147 ≠ gb153))
                  have n15_ := Aside0.mk ((by rw [hg]; exact Nat.ne_of_gt (blk_lt (g := gb147) (o := .cells #[.int .u64 t143, .int .u64 t144, .string t145] 24 (0, 0)) (by (with_reducible repeat (first | refine blk_drewN ?_ _ | refine blk_drew ?_ | refine blk_alloc ?_ _)); exact BK147.out)) : gb153 ≠ gb147))
                  clear BK129
                  clear BK136
                  clear BK141
                  clear BK147
                  clear HB
                  have BK129 := n0_
                  have BK136 := n1_
                  have BK141 := n2_
                  have BK147 := n3_
                  have HB := n4_
                  have BK153 := n5_
                  have GW153 := n6_
                  have GE153 := n7_
                  have NB129_153 := n8_
                  have NB153_129 := n9_
                  have NB136_153 := n10_
                  have NB153_136 := n11_
                  have NB141_153 := n12_
                  have NB153_141 := n13_
                  have NB147_153 := n14_
                  have NB153_147 := n15_
                  clear n0_ n1_ n2_ n3_ n4_ n5_ n6_ n7_ n8_ n9_ n10_ n11_ n12_ n13_ n14_ n15_
                  clear hb hbox hg
                  refine hK.out _ _ ⟨(blk_cell BK129.out 0).trans rfl, (blk_cell BK129.out 1).trans rfl, (blk_cell BK129.out 2).trans rfl⟩ (fun hHeld => ?_)
                  clear hK K
                  refine norm_ (a' := ?_) ?_ ?_
                  rotate_left
                  · show Act.put _ (some 14) _ = _
                    simp only [Act.put, List.setIfInBounds_toArray, List.set_cons_zero, List.set_cons_succ, i64_w, i32_w]
                    rfl
                  refine one_ (i := 4) (N := some 46) #[true, true, true, true, true, false, false, false, true, false, false] rfl rfl (one_of HT_.out (by kernel_rfl)) (by decide) (fun K hK => ?_)
                  refine goes_ Try.func15 (by kernel_rfl) rfl #[.agg #[.int .u64 a0_0, .int .u64 a0_1, .string t131], .int .u64 a1, .string t148] (by rfl) rfl rfl (by (try simp only [List.map_toArray, List.map_cons, List.map_nil]); first | done | rfl | (simp only [List.length_drop, List.length_take]; rfl)) ?_
                  with_reducible refine (rostrumref08_Cast.calls k a0_0 a0_1 t131 a1 t148 t149 t150 t151 t152 _ A11.out).mono ?_
                  rintro e w47 ⟨rfl, hb⟩
                  refine ⟨_, rfl, ?_⟩
                  have n0_ := Aside0.mk (blk_below (g := gb129) (o := .cells #[.int .u64 a0_0, .int .u64 a0_1, .string t131] 24 (0, 0)) (by (with_reducible repeat (first | refine blk_drewN ?_ _ | refine blk_drew ?_ | refine blk_alloc ?_ _)); exact BK129.out) hb)
                  have n1_ := Aside0.mk (blk_below (g := gb136) (o := .cells #[.int .u64 t132, .int .u64 t133, .string t134] 24 (0, 0)) (by (with_reducible repeat (first | refine blk_drewN ?_ _ | refine blk_drew ?_ | refine blk_alloc ?_ _)); exact BK136.out) hb)
                  have n2_ := Aside0.mk (blk_below (g := gb141) (o := .cells #[.int .u64 t137, .int .u64 t138, .string t139] 24 (0, 0)) (by (with_reducible repeat (first | refine blk_drewN ?_ _ | refine blk_drew ?_ | refine blk_alloc ?_ _)); exact BK141.out) hb)
                  have n3_ := Aside0.mk (blk_below (g := gb147) (o := .cells #[.int .u64 t143, .int .u64 t144, .string t145] 24 (0, 0)) (by (with_reducible repeat (first | refine blk_drewN ?_ _ | refine blk_drew ?_ | refine blk_alloc ?_ _)); exact BK147.out) hb)
                  have n4_ := Aside0.mk (blk_below (g := gb153) (o := .cells #[.int .u64 0, .int .u64 0, .string (⟨#[]⟩ : ByteArray)] 24 (0, 0)) (by (with_reducible repeat (first | refine blk_drewN ?_ _ | refine blk_drew ?_ | refine blk_alloc ?_ _)); exact BK153.out) hb)
                  have n5_ := Aside0.mk (below_step (by repeat (first | (with_reducible first | exact HB.out | apply below_alloc | apply pw_below_drewN | apply below_drew1 | refine below_set ?_ GE129.out | refine below_set ?_ GE136.out | refine below_set ?_ GE141.out | refine below_set ?_ GE147.out | refine below_set ?_ GE153.out) | exact HB.out)) hb)
                  clear BK129
                  clear BK136
                  clear BK141
                  clear BK147
                  clear BK153
                  clear HB
                  have BK129 := n0_
                  have BK136 := n1_
                  have BK141 := n2_
                  have BK147 := n3_
                  have BK153 := n4_
                  have HB := n5_
                  clear n0_ n1_ n2_ n3_ n4_ n5_
                  (try clear hb)
                  (try clear hb2)
                  (try clear hk)
                  (try clear hi)
                  refine hK.out _ _ ⟨(blk_cell BK129.out 0).trans rfl, (blk_cell BK129.out 1).trans rfl, (blk_cell BK129.out 2).trans rfl⟩ (fun hHeld => ?_)
                  clear hK K
                  refine norm_ (a' := ?_) ?_ ?_
                  rotate_left
                  · show Act.put _ (some 46) _ = _
                    simp only [Act.put, List.setIfInBounds_toArray, List.set_cons_zero, List.set_cons_succ, i64_w, i32_w]
                    rfl
                  refine pure_ (i := 5) (N := some 41) (v := ?_) (a' := ?_) #[true, true, true, true, true, true, false, false, true, false, false] rfl rfl (any_of HT_.out (by kernel_rfl)) (fun _ _ _ h => h) (Or.inl ⟨by rfl, ?_⟩) ?_ ?_
                  rotate_left
                  · intro w'
                    go_simp
                    with_reducible rfl
                  rotate_left
                  · simp only [Act.put, List.setIfInBounds_toArray, List.set_cons_zero, List.set_cons_succ, i64_w, i32_w]
                    rfl
                  refine pure_ (i := 6) (N := some 47) (v := ?_) (a' := ?_) #[true, true, true, true, true, true, true, false, true, false, false] rfl rfl (any_of HT_.out (by kernel_rfl)) (fun _ _ _ h => h) (Or.inl ⟨by rfl, ?_⟩) ?_ ?_
                  rotate_left
                  · intro w'
                    go_simp
                    with_reducible rfl
                  rotate_left
                  · simp only [Act.put, List.setIfInBounds_toArray, List.set_cons_zero, List.set_cons_succ, i64_w, i32_w]
                    rfl
                  refine pure_ (i := 7) (N := some 48) (v := ?_) (a' := ?_) #[true, true, true, true, true, true, true, true, true, false, false] rfl rfl (any_of HT_.out (by kernel_rfl)) (fun _ _ _ h => h) (Or.inl ⟨by rfl, ?_⟩) ?_ ?_
                  rotate_left
                  · intro w'
                    go_simp
                    with_reducible rfl
                  rotate_left
                  · simp only [Act.put, List.setIfInBounds_toArray, List.set_cons_zero, List.set_cons_succ, i64_w, i32_w]
                    rfl
                  exact norm_ (by simp only [putAll, Act.put, List.setIfInBounds_toArray, List.set_cons_zero, List.set_cons_succ]) (hCont (gb153) _ ⟨hHeld, (by (with_reducible repeat (first | refine blk_drewN ?_ _ | refine blk_drew ?_ | refine blk_alloc ?_ _)); exact BK129.out), (by (with_reducible repeat (first | refine blk_drewN ?_ _ | refine blk_drew ?_ | refine blk_alloc ?_ _)); exact BK136.out), (by (with_reducible repeat (first | refine blk_drewN ?_ _ | refine blk_drew ?_ | refine blk_alloc ?_ _)); exact BK141.out), (by (with_reducible repeat (first | refine blk_drewN ?_ _ | refine blk_drew ?_ | refine blk_alloc ?_ _)); exact BK147.out), (by (with_reducible repeat (first | refine blk_drewN ?_ _ | refine blk_drew ?_ | refine blk_alloc ?_ _)); exact BK153.out), GW153.out, GE153.out, NB129_153.out, NB153_129.out, NB136_153.out, NB153_136.out, NB141_153.out, NB153_141.out, NB147_153.out, NB153_147.out, (by repeat (first | (with_reducible first | exact HB.out | apply below_alloc | apply pw_below_drewN | apply below_drew1 | refine below_set ?_ GE129.out | refine below_set ?_ GE136.out | refine below_set ?_ GE141.out | refine below_set ?_ GE147.out | refine below_set ?_ GE153.out) | exact HB.out))⟩)
              · skip
                refine box_step ?hg (N := 14) ?hd (cs := #[.int .u64 0, .int .u64 0, .string (⟨#[]⟩ : ByteArray)]) (t := 24) ?hr ?_; (case hd => rfl); (case hg => rfl); (case hr => first | (go_simp; done) | (go_simp; rfl))
                intro gb153 hg w45 hbox hb
                have n0_ := Aside0.mk (blk_below (g := gb129) (o := .cells #[.int .u64 a0_0, .int .u64 a0_1, .string t131] 24 (0, 0)) (by (with_reducible repeat (first | refine blk_drewN ?_ _ | refine blk_drew ?_ | refine blk_alloc ?_ _)); exact BK129.out) hb)
                have n1_ := Aside0.mk (blk_below (g := gb136) (o := .cells #[.int .u64 t132, .int .u64 t133, .string t134] 24 (0, 0)) (by (with_reducible repeat (first | refine blk_drewN ?_ _ | refine blk_drew ?_ | refine blk_alloc ?_ _)); exact BK136.out) hb)
                have n2_ := Aside0.mk (blk_below (g := gb141) (o := .cells #[.int .u64 t137, .int .u64 t138, .string t139] 24 (0, 0)) (by (with_reducible repeat (first | refine blk_drewN ?_ _ | refine blk_drew ?_ | refine blk_alloc ?_ _)); exact BK141.out) hb)
                have n3_ := Aside0.mk (blk_below (g := gb147) (o := .cells #[.int .u64 t143, .int .u64 t144, .string t145] 24 (0, 0)) (by (with_reducible repeat (first | refine blk_drewN ?_ _ | refine blk_drew ?_ | refine blk_alloc ?_ _)); exact BK147.out) hb)
                have n4_ := Aside0.mk (below_step (by repeat (first | (with_reducible first | exact HB.out | apply below_alloc | apply pw_below_drewN | apply below_drew1 | refine below_set ?_ GE129.out | refine below_set ?_ GE136.out | refine below_set ?_ GE141.out | refine below_set ?_ GE147.out) | exact HB.out)) hb)
                have n5_ := Aside0.mk (hbox)
                have n6_ := Aside0.mk ((by rw [hg]; exact (below_size (by repeat (first | (with_reducible first | exact HB.out | apply below_alloc | apply pw_below_drewN | apply below_drew1 | refine below_set ?_ GE129.out | refine below_set ?_ GE136.out | refine below_set ?_ GE141.out | refine below_set ?_ GE147.out) | exact HB.out))) : w.heap.size ≤ gb153))
                have n7_ := Aside0.mk ((by rw [hg]; exact (below_size (by repeat (first | (with_reducible first | exact HB.out | apply below_alloc | apply pw_below_drewN | apply below_drew1 | refine below_set ?_ GE129.out | refine below_set ?_ GE136.out | refine below_set ?_ GE141.out | refine below_set ?_ GE147.out) | exact HB.out))) : w.heap.size ≤ gb153))
                have n8_ := Aside0.mk ((by rw [hg]; exact Nat.ne_of_lt (blk_lt (g := gb129) (o := .cells #[.int .u64 a0_0, .int .u64 a0_1, .string t131] 24 (0, 0)) (by (with_reducible repeat (first | refine blk_drewN ?_ _ | refine blk_drew ?_ | refine blk_alloc ?_ _)); exact BK129.out)) : gb129 ≠ gb153))
                have n9_ := Aside0.mk ((by rw [hg]; exact Nat.ne_of_gt (blk_lt (g := gb129) (o := .cells #[.int .u64 a0_0, .int .u64 a0_1, .string t131] 24 (0, 0)) (by (with_reducible repeat (first | refine blk_drewN ?_ _ | refine blk_drew ?_ | refine blk_alloc ?_ _)); exact BK129.out)) : gb153 ≠ gb129))
                have n10_ := Aside0.mk ((by rw [hg]; exact Nat.ne_of_lt (blk_lt (g := gb136) (o := .cells #[.int .u64 t132, .int .u64 t133, .string t134] 24 (0, 0)) (by (with_reducible repeat (first | refine blk_drewN ?_ _ | refine blk_drew ?_ | refine blk_alloc ?_ _)); exact BK136.out)) : gb136 ≠ gb153))
                have n11_ := Aside0.mk ((by rw [hg]; exact Nat.ne_of_gt (blk_lt (g := gb136) (o := .cells #[.int .u64 t132, .int .u64 t133, .string t134] 24 (0, 0)) (by (with_reducible repeat (first | refine blk_drewN ?_ _ | refine blk_drew ?_ | refine blk_alloc ?_ _)); exact BK136.out)) : gb153 ≠ gb136))
                have n12_ := Aside0.mk ((by rw [hg]; exact Nat.ne_of_lt (blk_lt (g := gb141) (o := .cells #[.int .u64 t137, .int .u64 t138, .string t139] 24 (0, 0)) (by (with_reducible repeat (first | refine blk_drewN ?_ _ | refine blk_drew ?_ | refine blk_alloc ?_ _)); exact BK141.out)) : gb141 ≠ gb153))
                have n13_ := Aside0.mk ((by rw [hg]; exact Nat.ne_of_gt (blk_lt (g := gb141) (o := .cells #[.int .u64 t137, .int .u64 t138, .string t139] 24 (0, 0)) (by (with_reducible repeat (first | refine blk_drewN ?_ _ | refine blk_drew ?_ | refine blk_alloc ?_ _)); exact BK141.out)) : gb153 ≠ gb141))
                have n14_ := Aside0.mk ((by rw [hg]; exact Nat.ne_of_lt (blk_lt (g := gb147) (o := .cells #[.int .u64 t143, .int .u64 t144, .string t145] 24 (0, 0)) (by (with_reducible repeat (first | refine blk_drewN ?_ _ | refine blk_drew ?_ | refine blk_alloc ?_ _)); exact BK147.out)) : gb147 ≠ gb153))
                have n15_ := Aside0.mk ((by rw [hg]; exact Nat.ne_of_gt (blk_lt (g := gb147) (o := .cells #[.int .u64 t143, .int .u64 t144, .string t145] 24 (0, 0)) (by (with_reducible repeat (first | refine blk_drewN ?_ _ | refine blk_drew ?_ | refine blk_alloc ?_ _)); exact BK147.out)) : gb153 ≠ gb147))
                clear BK129
                clear BK136
                clear BK141
                clear BK147
                clear HB
                have BK129 := n0_
                have BK136 := n1_
                have BK141 := n2_
                have BK147 := n3_
                have HB := n4_
                have BK153 := n5_
                have GW153 := n6_
                have GE153 := n7_
                have NB129_153 := n8_
                have NB153_129 := n9_
                have NB136_153 := n10_
                have NB153_136 := n11_
                have NB141_153 := n12_
                have NB153_141 := n13_
                have NB147_153 := n14_
                have NB153_147 := n15_
                clear n0_ n1_ n2_ n3_ n4_ n5_ n6_ n7_ n8_ n9_ n10_ n11_ n12_ n13_ n14_ n15_
                clear hb hbox hg
                refine hK.out _ _ ⟨(blk_cell BK129.out 0).trans rfl, (blk_cell BK129.out 1).trans rfl, (blk_cell BK129.out 2).trans rfl⟩ (fun hHeld => ?_)
                clear hK K
                refine norm_ (a' := ?_) ?_ ?_
                rotate_left
                · show Act.put _ (some 14) _ = _
                  simp only [Act.put, List.setIfInBounds_toArray, List.set_cons_zero, List.set_cons_succ, i64_w, i32_w]
                  rfl
                refine one_ (i := 3) (N := some 45) #[true, true, true, true, false, false, false, false, true, false, false] rfl rfl (one_of HT_.out (by kernel_rfl)) (by decide) (fun K hK => ?_)
                refine goes_ Try.func11 (by kernel_rfl) rfl #[.string a2] (by rfl) rfl rfl (by (try simp only [List.map_toArray, List.map_cons, List.map_nil]); first | done | rfl | (simp only [List.length_drop, List.length_take]; rfl)) ?_
                with_reducible refine (rostrumlaw08_cut.calls a2 t148 _ A10.out).mono ?_
                rintro e w46 ⟨rfl, hb⟩
                refine ⟨_, rfl, ?_⟩
                have n0_ := Aside0.mk (blk_below (g := gb129) (o := .cells #[.int .u64 a0_0, .int .u64 a0_1, .string t131] 24 (0, 0)) (by (with_reducible repeat (first | refine blk_drewN ?_ _ | refine blk_drew ?_ | refine blk_alloc ?_ _)); exact BK129.out) hb)
                have n1_ := Aside0.mk (blk_below (g := gb136) (o := .cells #[.int .u64 t132, .int .u64 t133, .string t134] 24 (0, 0)) (by (with_reducible repeat (first | refine blk_drewN ?_ _ | refine blk_drew ?_ | refine blk_alloc ?_ _)); exact BK136.out) hb)
                have n2_ := Aside0.mk (blk_below (g := gb141) (o := .cells #[.int .u64 t137, .int .u64 t138, .string t139] 24 (0, 0)) (by (with_reducible repeat (first | refine blk_drewN ?_ _ | refine blk_drew ?_ | refine blk_alloc ?_ _)); exact BK141.out) hb)
                have n3_ := Aside0.mk (blk_below (g := gb147) (o := .cells #[.int .u64 t143, .int .u64 t144, .string t145] 24 (0, 0)) (by (with_reducible repeat (first | refine blk_drewN ?_ _ | refine blk_drew ?_ | refine blk_alloc ?_ _)); exact BK147.out) hb)
                have n4_ := Aside0.mk (blk_below (g := gb153) (o := .cells #[.int .u64 0, .int .u64 0, .string (⟨#[]⟩ : ByteArray)] 24 (0, 0)) (by (with_reducible repeat (first | refine blk_drewN ?_ _ | refine blk_drew ?_ | refine blk_alloc ?_ _)); exact BK153.out) hb)
                have n5_ := Aside0.mk (below_step (by repeat (first | (with_reducible first | exact HB.out | apply below_alloc | apply pw_below_drewN | apply below_drew1 | refine below_set ?_ GE129.out | refine below_set ?_ GE136.out | refine below_set ?_ GE141.out | refine below_set ?_ GE147.out | refine below_set ?_ GE153.out) | exact HB.out)) hb)
                clear BK129
                clear BK136
                clear BK141
                clear BK147
                clear BK153
                clear HB
                have BK129 := n0_
                have BK136 := n1_
                have BK141 := n2_
                have BK147 := n3_
                have BK153 := n4_
                have HB := n5_
                clear n0_ n1_ n2_ n3_ n4_ n5_
                (try clear hb)
                (try clear hb2)
                (try clear hk)
                (try clear hi)
                refine hK.out _ _ ⟨(blk_cell BK129.out 0).trans rfl, (blk_cell BK129.out 1).trans rfl, (blk_cell BK129.out 2).trans rfl⟩ (fun hHeld => ?_)
                clear hK K
                refine norm_ (a' := ?_) ?_ ?_
                rotate_left
                · show Act.put _ (some 45) _ = _
                  simp only [Act.put, List.setIfInBounds_toArray, List.set_cons_zero, List.set_cons_succ, i64_w, i32_w]
                  rfl
                refine one_ (i := 4) (N := some 46) #[true, true, true, true, true, false, false, false, true, false, false] rfl rfl (one_of HT_.out (by kernel_rfl)) (by decide) (fun K hK => ?_)
                refine goes_ Try.func15 (by kernel_rfl) rfl #[.agg #[.int .u64 a0_0, .int .u64 a0_1, .string t131], .int .u64 a1, .string t148] (by rfl) rfl rfl (by (try simp only [List.map_toArray, List.map_cons, List.map_nil]); first | done | rfl | (simp only [List.length_drop, List.length_take]; rfl)) ?_
                with_reducible refine (rostrumref08_Cast.calls k a0_0 a0_1 t131 a1 t148 t149 t150 t151 t152 _ A11.out).mono ?_
                rintro e w47 ⟨rfl, hb⟩
                refine ⟨_, rfl, ?_⟩
                have n0_ := Aside0.mk (blk_below (g := gb129) (o := .cells #[.int .u64 a0_0, .int .u64 a0_1, .string t131] 24 (0, 0)) (by (with_reducible repeat (first | refine blk_drewN ?_ _ | refine blk_drew ?_ | refine blk_alloc ?_ _)); exact BK129.out) hb)
                have n1_ := Aside0.mk (blk_below (g := gb136) (o := .cells #[.int .u64 t132, .int .u64 t133, .string t134] 24 (0, 0)) (by (with_reducible repeat (first | refine blk_drewN ?_ _ | refine blk_drew ?_ | refine blk_alloc ?_ _)); exact BK136.out) hb)
                have n2_ := Aside0.mk (blk_below (g := gb141) (o := .cells #[.int .u64 t137, .int .u64 t138, .string t139] 24 (0, 0)) (by (with_reducible repeat (first | refine blk_drewN ?_ _ | refine blk_drew ?_ | refine blk_alloc ?_ _)); exact BK141.out) hb)
                have n3_ := Aside0.mk (blk_below (g := gb147) (o := .cells #[.int .u64 t143, .int .u64 t144, .string t145] 24 (0, 0)) (by (with_reducible repeat (first | refine blk_drewN ?_ _ | refine blk_drew ?_ | refine blk_alloc ?_ _)); exact BK147.out) hb)
                have n4_ := Aside0.mk (blk_below (g := gb153) (o := .cells #[.int .u64 0, .int .u64 0, .string (⟨#[]⟩ : ByteArray)] 24 (0, 0)) (by (with_reducible repeat (first | refine blk_drewN ?_ _ | refine blk_drew ?_ | refine blk_alloc ?_ _)); exact BK153.out) hb)
                have n5_ := Aside0.mk (below_step (by repeat (first | (with_reducible first | exact HB.out | apply below_alloc | apply pw_below_drewN | apply below_drew1 | refine below_set ?_ GE129.out | refine below_set ?_ GE136.out | refine below_set ?_ GE141.out | refine below_set ?_ GE147.out | refine below_set ?_ GE153.out) | exact HB.out)) hb)
                clear BK129
                clear BK136
                clear BK141
                clear BK147
                clear BK153
                clear HB
                have BK129 := n0_
                have BK136 := n1_
                have BK141 := n2_
                have BK147 := n3_
                have BK153 := n4_
                have HB := n5_
                clear n0_ n1_ n2_ n3_ n4_ n5_
                (try clear hb)
                (try clear hb2)
                (try clear hk)
                (try clear hi)
                refine hK.out _ _ ⟨(blk_cell BK129.out 0).trans rfl, (blk_cell BK129.out 1).trans rfl, (blk_cell BK129.out 2).trans rfl⟩ (fun hHeld => ?_)
                clear hK K
                refine norm_ (a' := ?_) ?_ ?_
                rotate_left
                · show Act.put _ (some 46) _ = _
                  simp only [Act.put, List.setIfInBounds_toArray, List.set_cons_zero, List.set_cons_succ, i64_w, i32_w]
                  rfl
                refine pure_ (i := 5) (N := some 41) (v := ?_) (a' := ?_) #[true, true, true, true, true, true, false, false, true, false, false] rfl rfl (any_of HT_.out (by kernel_rfl)) (fun _ _ _ h => h) (Or.inl ⟨by rfl, ?_⟩) ?_ ?_
                rotate_left
                · intro w'
                  go_simp
                  with_reducible rfl
                rotate_left
                · simp only [Act.put, List.setIfInBounds_toArray, List.set_cons_zero, List.set_cons_succ, i64_w, i32_w]
                  rfl
                refine pure_ (i := 6) (N := some 47) (v := ?_) (a' := ?_) #[true, true, true, true, true, true, true, false, true, false, false] rfl rfl (any_of HT_.out (by kernel_rfl)) (fun _ _ _ h => h) (Or.inl ⟨by rfl, ?_⟩) ?_ ?_
                rotate_left
                · intro w'
                  go_simp
                  with_reducible rfl
                rotate_left
                · simp only [Act.put, List.setIfInBounds_toArray, List.set_cons_zero, List.set_cons_succ, i64_w, i32_w]
                  rfl
                refine pure_ (i := 7) (N := some 48) (v := ?_) (a' := ?_) #[true, true, true, true, true, true, true, true, true, false, false] rfl rfl (any_of HT_.out (by kernel_rfl)) (fun _ _ _ h => h) (Or.inl ⟨by rfl, ?_⟩) ?_ ?_
                rotate_left
                · intro w'
                  go_simp
                  with_reducible rfl
                rotate_left
                · simp only [Act.put, List.setIfInBounds_toArray, List.set_cons_zero, List.set_cons_succ, i64_w, i32_w]
                  rfl
                exact norm_ (by simp only [putAll, Act.put, List.setIfInBounds_toArray, List.set_cons_zero, List.set_cons_succ]) (hCont (gb153) _ ⟨hHeld, (by (with_reducible repeat (first | refine blk_drewN ?_ _ | refine blk_drew ?_ | refine blk_alloc ?_ _)); exact BK129.out), (by (with_reducible repeat (first | refine blk_drewN ?_ _ | refine blk_drew ?_ | refine blk_alloc ?_ _)); exact BK136.out), (by (with_reducible repeat (first | refine blk_drewN ?_ _ | refine blk_drew ?_ | refine blk_alloc ?_ _)); exact BK141.out), (by (with_reducible repeat (first | refine blk_drewN ?_ _ | refine blk_drew ?_ | refine blk_alloc ?_ _)); exact BK147.out), (by (with_reducible repeat (first | refine blk_drewN ?_ _ | refine blk_drew ?_ | refine blk_alloc ?_ _)); exact BK153.out), GW153.out, GE153.out, NB129_153.out, NB153_129.out, NB136_153.out, NB153_136.out, NB141_153.out, NB153_141.out, NB147_153.out, NB153_147.out, (by repeat (first | (with_reducible first | exact HB.out | apply below_alloc | apply pw_below_drewN | apply below_drew1 | refine below_set ?_ GE129.out | refine below_set ?_ GE136.out | refine below_set ?_ GE141.out | refine below_set ?_ GE147.out | refine below_set ?_ GE153.out) | exact HB.out))⟩)
            rintro gb153 w48 ⟨hS_, h0_, h1_, h2_, h3_, h4_, h5_, h6_, h7_, h8_, h9_, h10_, h11_, h12_, h13_, h14_, h15_⟩
            have n0_ : Aside0 (w48.heap[gb129]? = some (.cells #[.int .u64 a0_0, .int .u64 a0_1, .string t131] 24 (0, 0))) := ⟨h0_⟩
            have n1_ : Aside0 (w48.heap[gb136]? = some (.cells #[.int .u64 t132, .int .u64 t133, .string t134] 24 (0, 0))) := ⟨h1_⟩
            have n2_ : Aside0 (w48.heap[gb141]? = some (.cells #[.int .u64 t137, .int .u64 t138, .string t139] 24 (0, 0))) := ⟨h2_⟩
            have n3_ : Aside0 (w48.heap[gb147]? = some (.cells #[.int .u64 t143, .int .u64 t144, .string t145] 24 (0, 0))) := ⟨h3_⟩
            have n4_ : Aside0 (w48.heap[gb153]? = some (.cells #[.int .u64 0, .int .u64 0, .string (⟨#[]⟩ : ByteArray)] 24 (0, 0))) := ⟨h4_⟩
            have n5_ : Aside0 (w.heap.size ≤ gb153) := ⟨h5_⟩
            have n6_ : Aside0 (w.heap.size ≤ gb153) := ⟨h6_⟩
            have n7_ : Aside0 (gb129 ≠ gb153) := ⟨h7_⟩
            have n8_ : Aside0 (gb153 ≠ gb129) := ⟨h8_⟩
            have n9_ : Aside0 (gb136 ≠ gb153) := ⟨h9_⟩
            have n10_ : Aside0 (gb153 ≠ gb136) := ⟨h10_⟩
            have n11_ : Aside0 (gb141 ≠ gb153) := ⟨h11_⟩
            have n12_ : Aside0 (gb153 ≠ gb141) := ⟨h12_⟩
            have n13_ : Aside0 (gb147 ≠ gb153) := ⟨h13_⟩
            have n14_ : Aside0 (gb153 ≠ gb147) := ⟨h14_⟩
            have n15_ : Aside0 (Below w.heap.size w w48) := ⟨h15_⟩
            clear BK129
            clear BK136
            clear BK141
            clear BK147
            clear HB
            clear h0_ h1_ h2_ h3_ h4_ h5_ h6_ h7_ h8_ h9_ h10_ h11_ h12_ h13_ h14_ h15_
            have BK129 := n0_
            have BK136 := n1_
            have BK141 := n2_
            have BK147 := n3_
            have BK153 := n4_
            have GW153 := n5_
            have GE153 := n6_
            have NB129_153 := n7_
            have NB153_129 := n8_
            have NB136_153 := n9_
            have NB153_136 := n10_
            have NB141_153 := n11_
            have NB153_141 := n12_
            have NB147_153 := n13_
            have NB153_147 := n14_
            have HB := n15_
            clear n0_ n1_ n2_ n3_ n4_ n5_ n6_ n7_ n8_ n9_ n10_ n11_ n12_ n13_ n14_ n15_
            have hHeld : w48.cell? ⟨gb129, 0, none⟩ = some (.int .u64 a0_0) ∧ w48.cell? ⟨gb129, 1, none⟩ = some (.int .u64 a0_1) ∧ w48.cell? ⟨gb129, 2, none⟩ = some (.string t131) := hS_
            refine norm_ (a' := ?_) ?_ ?_
            rotate_left
            · simp only [putAll, Act.put, List.setIfInBounds_toArray, List.set_cons_zero, List.set_cons_succ]
              rfl
            refine one_ (i := 9) (N := none) #[true, true, true, true, true, true, true, true, true, true, false] rfl rfl (one_of HT_.out (by kernel_rfl)) (by decide) (fun K hK => ?_)
            have hs49 : w48.cell? ⟨gb153, 0, none⟩ = some (.int .u64 0) := (blk_cell BK153.out 0).trans rfl
            have hfs49 := blk_frozen BK153.out 0
            have hns49_0 := NB129_153.out
            have hns49_1 := NB136_153.out
            have hns49_2 := NB141_153.out
            have hns49_3 := NB147_153.out
            have hms49_0 := NB153_129.out
            have hms49_1 := NB153_136.out
            have hms49_2 := NB153_141.out
            have hms49_3 := NB153_147.out
            have hs50 : w48.cell? ⟨gb153, 1, none⟩ = some (.int .u64 0) := (blk_cell BK153.out 1).trans rfl
            have hfs50 := blk_frozen BK153.out 1
            have hns50_0 := NB129_153.out
            have hns50_1 := NB136_153.out
            have hns50_2 := NB141_153.out
            have hns50_3 := NB147_153.out
            have hms50_0 := NB153_129.out
            have hms50_1 := NB153_136.out
            have hms50_2 := NB153_141.out
            have hms50_3 := NB153_147.out
            have hs51 : w48.cell? ⟨gb153, 2, none⟩ = some (.string (⟨#[]⟩ : ByteArray)) := (blk_cell BK153.out 2).trans rfl
            have hfs51 := blk_frozen BK153.out 2
            have hns51_0 := NB129_153.out
            have hns51_1 := NB136_153.out
            have hns51_2 := NB141_153.out
            have hns51_3 := NB147_153.out
            have hms51_0 := NB153_129.out
            have hms51_1 := NB153_136.out
            have hms51_2 := NB153_141.out
            have hms51_3 := NB153_147.out
            refine skip_ (w1 := ?_) (by rfl) rfl ?_ ?_
            rotate_left
            · go_simp
              rfl
            refine hK.out _ _ ⟨((cell_far (p := ⟨gb153, _, none⟩) NB129_153.out _).trans (((cell_far (p := ⟨gb153, _, none⟩) NB129_153.out _).trans (((cell_far (p := ⟨gb153, _, none⟩) NB129_153.out _).trans (hHeld.1)))))), ((cell_far (p := ⟨gb153, _, none⟩) NB129_153.out _).trans (((cell_far (p := ⟨gb153, _, none⟩) NB129_153.out _).trans (((cell_far (p := ⟨gb153, _, none⟩) NB129_153.out _).trans (hHeld.2.1)))))), ((cell_far (p := ⟨gb153, _, none⟩) NB129_153.out _).trans (((cell_far (p := ⟨gb153, _, none⟩) NB129_153.out _).trans (((cell_far (p := ⟨gb153, _, none⟩) NB129_153.out _).trans (hHeld.2.2))))))⟩ (fun hHeld => ?_)
            clear hK K
            refine pure_ (i := 10) (N := some 15) (v := ?_) (a' := ?_) #[true, true, true, true, true, true, true, true, true, true, true] rfl rfl (any_of HT_.out (by kernel_rfl)) (fun _ _ _ h => h) (Or.inl ⟨by rfl, ?_⟩) ?_ ?_
            rotate_left
            · intro w'
              go_simp
              with_reducible rfl
            rotate_left
            · simp only [Act.put, List.setIfInBounds_toArray, List.set_cons_zero, List.set_cons_succ, i64_w, i32_w]
              rfl
            refine done_ (done_of HT_.out (by kernel_rfl)) ?_
            try go_wp2
            have n0_ : Aside0 ((((w48.setCell ⟨gb153, 0, none⟩ (.int .u64 t149)).setCell ⟨gb153, 1, none⟩ (.int .u64 t150)).setCell ⟨gb153, 2, none⟩ (.string t151)).heap[gb129]? = some (.cells #[.int .u64 a0_0, .int .u64 a0_1, .string t131] 24 (0, 0))) := ⟨by (with_reducible repeat (first | refine blk_drewN ?_ _ | refine blk_drew ?_ | refine blk_alloc ?_ _)); refine blk_far ?_ NB129_153.out _; (with_reducible repeat (first | refine blk_drewN ?_ _ | refine blk_drew ?_ | refine blk_alloc ?_ _)); refine blk_far ?_ NB129_153.out _; (with_reducible repeat (first | refine blk_drewN ?_ _ | refine blk_drew ?_ | refine blk_alloc ?_ _)); refine blk_far ?_ NB129_153.out _; (with_reducible repeat (first | refine blk_drewN ?_ _ | refine blk_drew ?_ | refine blk_alloc ?_ _)); exact BK129.out⟩
            have n1_ : Aside0 ((((w48.setCell ⟨gb153, 0, none⟩ (.int .u64 t149)).setCell ⟨gb153, 1, none⟩ (.int .u64 t150)).setCell ⟨gb153, 2, none⟩ (.string t151)).heap[gb136]? = some (.cells #[.int .u64 t132, .int .u64 t133, .string t134] 24 (0, 0))) := ⟨by (with_reducible repeat (first | refine blk_drewN ?_ _ | refine blk_drew ?_ | refine blk_alloc ?_ _)); refine blk_far ?_ NB136_153.out _; (with_reducible repeat (first | refine blk_drewN ?_ _ | refine blk_drew ?_ | refine blk_alloc ?_ _)); refine blk_far ?_ NB136_153.out _; (with_reducible repeat (first | refine blk_drewN ?_ _ | refine blk_drew ?_ | refine blk_alloc ?_ _)); refine blk_far ?_ NB136_153.out _; (with_reducible repeat (first | refine blk_drewN ?_ _ | refine blk_drew ?_ | refine blk_alloc ?_ _)); exact BK136.out⟩
            have n2_ : Aside0 ((((w48.setCell ⟨gb153, 0, none⟩ (.int .u64 t149)).setCell ⟨gb153, 1, none⟩ (.int .u64 t150)).setCell ⟨gb153, 2, none⟩ (.string t151)).heap[gb141]? = some (.cells #[.int .u64 t137, .int .u64 t138, .string t139] 24 (0, 0))) := ⟨by (with_reducible repeat (first | refine blk_drewN ?_ _ | refine blk_drew ?_ | refine blk_alloc ?_ _)); refine blk_far ?_ NB141_153.out _; (with_reducible repeat (first | refine blk_drewN ?_ _ | refine blk_drew ?_ | refine blk_alloc ?_ _)); refine blk_far ?_ NB141_153.out _; (with_reducible repeat (first | refine blk_drewN ?_ _ | refine blk_drew ?_ | refine blk_alloc ?_ _)); refine blk_far ?_ NB141_153.out _; (with_reducible repeat (first | refine blk_drewN ?_ _ | refine blk_drew ?_ | refine blk_alloc ?_ _)); exact BK141.out⟩
            have n3_ : Aside0 ((((w48.setCell ⟨gb153, 0, none⟩ (.int .u64 t149)).setCell ⟨gb153, 1, none⟩ (.int .u64 t150)).setCell ⟨gb153, 2, none⟩ (.string t151)).heap[gb147]? = some (.cells #[.int .u64 t143, .int .u64 t144, .string t145] 24 (0, 0))) := ⟨by (with_reducible repeat (first | refine blk_drewN ?_ _ | refine blk_drew ?_ | refine blk_alloc ?_ _)); refine blk_far ?_ NB147_153.out _; (with_reducible repeat (first | refine blk_drewN ?_ _ | refine blk_drew ?_ | refine blk_alloc ?_ _)); refine blk_far ?_ NB147_153.out _; (with_reducible repeat (first | refine blk_drewN ?_ _ | refine blk_drew ?_ | refine blk_alloc ?_ _)); refine blk_far ?_ NB147_153.out _; (with_reducible repeat (first | refine blk_drewN ?_ _ | refine blk_drew ?_ | refine blk_alloc ?_ _)); exact BK147.out⟩
            have n4_ : Aside0 ((((w48.setCell ⟨gb153, 0, none⟩ (.int .u64 t149)).setCell ⟨gb153, 1, none⟩ (.int .u64 t150)).setCell ⟨gb153, 2, none⟩ (.string t151)).heap[gb153]? = some (.cells #[.int .u64 t149, .int .u64 t150, .string t151] 24 (0, 0))) := ⟨by (with_reducible repeat (first | refine blk_drewN ?_ _ | refine blk_drew ?_ | refine blk_alloc ?_ _)); refine blk_put (cs := #[.int .u64 t149, .int .u64 t150, .string (⟨#[]⟩ : ByteArray)]) ?_ 2 _ rfl; (with_reducible repeat (first | refine blk_drewN ?_ _ | refine blk_drew ?_ | refine blk_alloc ?_ _)); refine blk_put (cs := #[.int .u64 t149, .int .u64 0, .string (⟨#[]⟩ : ByteArray)]) ?_ 1 _ rfl; (with_reducible repeat (first | refine blk_drewN ?_ _ | refine blk_drew ?_ | refine blk_alloc ?_ _)); refine blk_put (cs := #[.int .u64 0, .int .u64 0, .string (⟨#[]⟩ : ByteArray)]) ?_ 0 _ rfl; (with_reducible repeat (first | refine blk_drewN ?_ _ | refine blk_drew ?_ | refine blk_alloc ?_ _)); exact BK153.out⟩
            have n5_ : Aside0 (Below w.heap.size w (((w48.setCell ⟨gb153, 0, none⟩ (.int .u64 t149)).setCell ⟨gb153, 1, none⟩ (.int .u64 t150)).setCell ⟨gb153, 2, none⟩ (.string t151))) := ⟨by repeat (first | (with_reducible first | exact HB.out | apply below_alloc | apply pw_below_drewN | apply below_drew1 | refine below_set ?_ GE129.out | refine below_set ?_ GE136.out | refine below_set ?_ GE141.out | refine below_set ?_ GE147.out | refine below_set ?_ GE153.out) | exact HB.out)⟩
            (try clear BK129)
            (try clear BK136)
            (try clear BK141)
            (try clear BK147)
            (try clear BK153)
            (try clear HB)
            generalize (((w48.setCell ⟨gb153, 0, none⟩ (.int .u64 t149)).setCell ⟨gb153, 1, none⟩ (.int .u64 t150)).setCell ⟨gb153, 2, none⟩ (.string t151)) = w52 at n0_ n1_ n2_ n3_ n4_ n5_ ⊢
            have BK129 := n0_
            have BK136 := n1_
            have BK141 := n2_
            have BK147 := n3_
            have BK153 := n4_
            have HB := n5_
            clear n0_ n1_ n2_ n3_ n4_ n5_
            have n0_ := Aside0.mk (blk_drew BK129.out)
            have n1_ := Aside0.mk (blk_drew BK136.out)
            have n2_ := Aside0.mk (blk_drew BK141.out)
            have n3_ := Aside0.mk (blk_drew BK147.out)
            have n4_ := Aside0.mk (blk_drew BK153.out)
            have n5_ := Aside0.mk (below_drew1 HB.out)
            clear BK129
            clear BK136
            clear BK141
            clear BK147
            clear BK153
            clear HB
            have BK129 := n0_
            have BK136 := n1_
            have BK141 := n2_
            have BK147 := n3_
            have BK153 := n4_
            have HB := n5_
            clear n0_ n1_ n2_ n3_ n4_ n5_
            refine start_ (n := 29) (S := fun w' => w'.cell? ⟨gb129, 0, none⟩ = some (.int .u64 a0_0) ∧ w'.cell? ⟨gb129, 1, none⟩ = some (.int .u64 a0_1) ∧ w'.cell? ⟨gb129, 2, none⟩ = some (.string t131) ∧ w'.cell? ⟨gb136, 0, none⟩ = some (.int .u64 t132) ∧ w'.cell? ⟨gb136, 1, none⟩ = some (.int .u64 t133) ∧ w'.cell? ⟨gb136, 2, none⟩ = some (.string t134) ∧ w'.cell? ⟨gb141, 0, none⟩ = some (.int .u64 t137) ∧ w'.cell? ⟨gb141, 1, none⟩ = some (.int .u64 t138) ∧ w'.cell? ⟨gb141, 2, none⟩ = some (.string t139) ∧ w'.cell? ⟨gb147, 0, none⟩ = some (.int .u64 t143) ∧ w'.cell? ⟨gb147, 1, none⟩ = some (.int .u64 t144) ∧ w'.cell? ⟨gb147, 2, none⟩ = some (.string t145) ∧ w'.cell? ⟨gb153, 0, none⟩ = some (.int .u64 t149) ∧ w'.cell? ⟨gb153, 1, none⟩ = some (.int .u64 t150) ∧ w'.cell? ⟨gb153, 2, none⟩ = some (.string t151)) (ds := []) #[false, false, false, false, false, false, false, false, false, false, false, false, false, false, false, false, false, false, false, false, false, false, false, false, false, false, false, false, false] (by kernel_rfl) rfl rfl ⟨(blk_cell BK129.out 0).trans rfl, (blk_cell BK129.out 1).trans rfl, (blk_cell BK129.out 2).trans rfl, (blk_cell BK136.out 0).trans rfl, (blk_cell BK136.out 1).trans rfl, (blk_cell BK136.out 2).trans rfl, (blk_cell BK141.out 0).trans rfl, (blk_cell BK141.out 1).trans rfl, (blk_cell BK141.out 2).trans rfl, (blk_cell BK147.out 0).trans rfl, (blk_cell BK147.out 1).trans rfl, (blk_cell BK147.out 2).trans rfl, (blk_cell BK153.out 0).trans rfl, (blk_cell BK153.out 1).trans rfl, (blk_cell BK153.out 2).trans rfl⟩ (fun hHeld => ?_); refine with_tabW rostrumlaw08_BallotVotes.tab7 rostrumlaw08_BallotVotes.bits7 (fun HT_ HW_ => ?_)
            generalize w52.drew = w53 at BK129 BK136 BK141 BK147 BK153 HB hHeld ⊢
            refine pure_ (i := 0) (N := some 49) (v := ?_) (a' := ?_) #[true, false, false, false, false, false, false, false, false, false, false, false, false, false, false, false, false, false, false, false, false, false, false, false, false, false, false, false, false] rfl rfl (any_of HT_.out (by kernel_rfl)) (fun _ _ _ h => h) (Or.inl ⟨by rfl, ?_⟩) ?_ ?_
            rotate_left
            · intro w'
              go_simp
              with_reducible rfl
            rotate_left
            · simp only [Act.put, List.setIfInBounds_toArray, List.set_cons_zero, List.set_cons_succ, i64_w, i32_w]
              rfl
            refine pure_ (i := 1) (N := some 50) (v := ?_) (a' := ?_) #[true, true, false, false, false, false, false, false, false, false, false, false, false, false, false, false, false, false, false, false, false, false, false, false, false, false, false, false, false] rfl rfl (any_of HT_.out (by kernel_rfl)) (fun _ _ _ h => h) (Or.inl ⟨by rfl, ?_⟩) ?_ ?_
            rotate_left
            · intro w'
              go_simp
              with_reducible rfl
            rotate_left
            · simp only [Act.put, List.setIfInBounds_toArray, List.set_cons_zero, List.set_cons_succ, i64_w, i32_w]
              rfl
            refine take_ (i := 2) (N := some 51) (v := ?_) (a' := ?_) #[true, true, true, false, false, false, false, false, false, false, false, false, false, false, false, false, false, false, false, false, false, false, false, false, false, false, false, false, false] rfl rfl (take_ofW HT_.out HW_.out (by kernel_rfl)) (fun _ _ _ h => h) (Or.inl ⟨by rfl, ?_⟩) hHeld ?_ ?_
            rotate_left
            · rintro w' ⟨s0, s1, s2, s3, s4, s5, s6, s7, s8, s9, s10, s11, s12, s13, s14⟩
              go_simp
              with_reducible rfl
            rotate_left
            · simp only [Act.put, List.setIfInBounds_toArray, List.set_cons_zero, List.set_cons_succ, i64_w, i32_w]
              rfl
            refine take_ (i := 4) (N := some 53) (v := ?_) (a' := ?_) #[true, true, true, false, true, false, false, false, false, false, false, false, false, false, false, false, false, false, false, false, false, false, false, false, false, false, false, false, false] rfl rfl (take_ofW HT_.out HW_.out (by kernel_rfl)) (fun _ _ _ h => h) (Or.inl ⟨by rfl, ?_⟩) hHeld ?_ ?_
            rotate_left
            · rintro w' ⟨s0, s1, s2, s3, s4, s5, s6, s7, s8, s9, s10, s11, s12, s13, s14⟩
              go_simp
              with_reducible rfl
            rotate_left
            · simp only [Act.put, List.setIfInBounds_toArray, List.set_cons_zero, List.set_cons_succ, i64_w, i32_w]
              rfl
            refine one_ (i := 3) (N := some 52) #[true, true, true, true, true, false, false, false, false, false, false, false, false, false, false, false, false, false, false, false, false, false, false, false, false, false, false, false, false] rfl rfl (one_of HT_.out (by kernel_rfl)) (by decide) (fun K hK => ?_)
            refine goes_ Try.func16 (by kernel_rfl) rfl #[.agg #[.int .u64 a0_0, .int .u64 a0_1, .string t131]] (by rfl) rfl rfl (by (try simp only [List.map_toArray, List.map_cons, List.map_nil]); first | done | rfl | (simp only [List.length_drop, List.length_take]; rfl)) ?_
            with_reducible refine (G.ballot_Right.calls a0_0 a0_1 t131 t154 _ A13.out).mono ?_
            rintro e w54 ⟨rfl, hb⟩
            refine ⟨_, rfl, ?_⟩
            have n0_ := Aside0.mk (blk_below (g := gb129) (o := .cells #[.int .u64 a0_0, .int .u64 a0_1, .string t131] 24 (0, 0)) (by (with_reducible repeat (first | refine blk_drewN ?_ _ | refine blk_drew ?_ | refine blk_alloc ?_ _)); exact BK129.out) hb)
            have n1_ := Aside0.mk (blk_below (g := gb136) (o := .cells #[.int .u64 t132, .int .u64 t133, .string t134] 24 (0, 0)) (by (with_reducible repeat (first | refine blk_drewN ?_ _ | refine blk_drew ?_ | refine blk_alloc ?_ _)); exact BK136.out) hb)
            have n2_ := Aside0.mk (blk_below (g := gb141) (o := .cells #[.int .u64 t137, .int .u64 t138, .string t139] 24 (0, 0)) (by (with_reducible repeat (first | refine blk_drewN ?_ _ | refine blk_drew ?_ | refine blk_alloc ?_ _)); exact BK141.out) hb)
            have n3_ := Aside0.mk (blk_below (g := gb147) (o := .cells #[.int .u64 t143, .int .u64 t144, .string t145] 24 (0, 0)) (by (with_reducible repeat (first | refine blk_drewN ?_ _ | refine blk_drew ?_ | refine blk_alloc ?_ _)); exact BK147.out) hb)
            have n4_ := Aside0.mk (blk_below (g := gb153) (o := .cells #[.int .u64 t149, .int .u64 t150, .string t151] 24 (0, 0)) (by (with_reducible repeat (first | refine blk_drewN ?_ _ | refine blk_drew ?_ | refine blk_alloc ?_ _)); exact BK153.out) hb)
            have n5_ := Aside0.mk (below_step (by repeat (first | (with_reducible first | exact HB.out | apply below_alloc | apply pw_below_drewN | apply below_drew1 | refine below_set ?_ GE129.out | refine below_set ?_ GE136.out | refine below_set ?_ GE141.out | refine below_set ?_ GE147.out | refine below_set ?_ GE153.out) | exact HB.out)) hb)
            clear BK129
            clear BK136
            clear BK141
            clear BK147
            clear BK153
            clear HB
            have BK129 := n0_
            have BK136 := n1_
            have BK141 := n2_
            have BK147 := n3_
            have BK153 := n4_
            have HB := n5_
            clear n0_ n1_ n2_ n3_ n4_ n5_
            (try clear hb)
            (try clear hb2)
            (try clear hk)
            (try clear hi)
            refine hK.out _ _ ⟨(blk_cell BK129.out 0).trans rfl, (blk_cell BK129.out 1).trans rfl, (blk_cell BK129.out 2).trans rfl, (blk_cell BK136.out 0).trans rfl, (blk_cell BK136.out 1).trans rfl, (blk_cell BK136.out 2).trans rfl, (blk_cell BK141.out 0).trans rfl, (blk_cell BK141.out 1).trans rfl, (blk_cell BK141.out 2).trans rfl, (blk_cell BK147.out 0).trans rfl, (blk_cell BK147.out 1).trans rfl, (blk_cell BK147.out 2).trans rfl, (blk_cell BK153.out 0).trans rfl, (blk_cell BK153.out 1).trans rfl, (blk_cell BK153.out 2).trans rfl⟩ (fun hHeld => ?_)
            clear hK K
            refine norm_ (a' := ?_) ?_ ?_
            rotate_left
            · show Act.put _ (some 52) _ = _
              simp only [Act.put, List.setIfInBounds_toArray, List.set_cons_zero, List.set_cons_succ, i64_w, i32_w]
              rfl
            refine one_ (i := 5) (N := some 54) #[true, true, true, true, true, true, false, false, false, false, false, false, false, false, false, false, false, false, false, false, false, false, false, false, false, false, false, false, false] rfl rfl (one_of HT_.out (by kernel_rfl)) (by decide) (fun K hK => ?_)
            refine goes_ Try.func17 (by kernel_rfl) rfl #[.agg #[.int .u64 a0_0, .int .u64 a0_1, .string t131]] (by rfl) rfl rfl (by (try simp only [List.map_toArray, List.map_cons, List.map_nil]); first | done | rfl | (simp only [List.length_drop, List.length_take]; rfl)) ?_
            with_reducible refine (rostrumref08_Right.calls a0_0 a0_1 t131 t155 _ A14.out).mono ?_
            rintro e w55 ⟨rfl, hb⟩
            refine ⟨_, rfl, ?_⟩
            have n0_ := Aside0.mk (blk_below (g := gb129) (o := .cells #[.int .u64 a0_0, .int .u64 a0_1, .string t131] 24 (0, 0)) (by (with_reducible repeat (first | refine blk_drewN ?_ _ | refine blk_drew ?_ | refine blk_alloc ?_ _)); exact BK129.out) hb)
            have n1_ := Aside0.mk (blk_below (g := gb136) (o := .cells #[.int .u64 t132, .int .u64 t133, .string t134] 24 (0, 0)) (by (with_reducible repeat (first | refine blk_drewN ?_ _ | refine blk_drew ?_ | refine blk_alloc ?_ _)); exact BK136.out) hb)
            have n2_ := Aside0.mk (blk_below (g := gb141) (o := .cells #[.int .u64 t137, .int .u64 t138, .string t139] 24 (0, 0)) (by (with_reducible repeat (first | refine blk_drewN ?_ _ | refine blk_drew ?_ | refine blk_alloc ?_ _)); exact BK141.out) hb)
            have n3_ := Aside0.mk (blk_below (g := gb147) (o := .cells #[.int .u64 t143, .int .u64 t144, .string t145] 24 (0, 0)) (by (with_reducible repeat (first | refine blk_drewN ?_ _ | refine blk_drew ?_ | refine blk_alloc ?_ _)); exact BK147.out) hb)
            have n4_ := Aside0.mk (blk_below (g := gb153) (o := .cells #[.int .u64 t149, .int .u64 t150, .string t151] 24 (0, 0)) (by (with_reducible repeat (first | refine blk_drewN ?_ _ | refine blk_drew ?_ | refine blk_alloc ?_ _)); exact BK153.out) hb)
            have n5_ := Aside0.mk (below_step (by repeat (first | (with_reducible first | exact HB.out | apply below_alloc | apply pw_below_drewN | apply below_drew1 | refine below_set ?_ GE129.out | refine below_set ?_ GE136.out | refine below_set ?_ GE141.out | refine below_set ?_ GE147.out | refine below_set ?_ GE153.out) | exact HB.out)) hb)
            clear BK129
            clear BK136
            clear BK141
            clear BK147
            clear BK153
            clear HB
            have BK129 := n0_
            have BK136 := n1_
            have BK141 := n2_
            have BK147 := n3_
            have BK153 := n4_
            have HB := n5_
            clear n0_ n1_ n2_ n3_ n4_ n5_
            (try clear hb)
            (try clear hb2)
            (try clear hk)
            (try clear hi)
            refine hK.out _ _ ⟨(blk_cell BK129.out 0).trans rfl, (blk_cell BK129.out 1).trans rfl, (blk_cell BK129.out 2).trans rfl, (blk_cell BK136.out 0).trans rfl, (blk_cell BK136.out 1).trans rfl, (blk_cell BK136.out 2).trans rfl, (blk_cell BK141.out 0).trans rfl, (blk_cell BK141.out 1).trans rfl, (blk_cell BK141.out 2).trans rfl, (blk_cell BK147.out 0).trans rfl, (blk_cell BK147.out 1).trans rfl, (blk_cell BK147.out 2).trans rfl, (blk_cell BK153.out 0).trans rfl, (blk_cell BK153.out 1).trans rfl, (blk_cell BK153.out 2).trans rfl⟩ (fun hHeld => ?_)
            clear hK K
            refine norm_ (a' := ?_) ?_ ?_
            rotate_left
            · show Act.put _ (some 54) _ = _
              simp only [Act.put, List.setIfInBounds_toArray, List.set_cons_zero, List.set_cons_succ, i64_w, i32_w]
              rfl
            refine pure_ (i := 6) (N := some 55) (v := ?_) (a' := ?_) #[true, true, true, true, true, true, true, false, false, false, false, false, false, false, false, false, false, false, false, false, false, false, false, false, false, false, false, false, false] rfl rfl (any_of HT_.out (by kernel_rfl)) (fun _ _ _ h => h) (Or.inl ⟨by rfl, ?_⟩) ?_ ?_
            rotate_left
            · intro w'
              go_simp
              with_reducible rfl
            rotate_left
            · simp only [Act.put, List.setIfInBounds_toArray, List.set_cons_zero, List.set_cons_succ, i64_w, i32_w]
              rfl
            refine pure_ (i := 7) (N := some 56) (v := ?_) (a' := ?_) #[true, true, true, true, true, true, true, true, false, false, false, false, false, false, false, false, false, false, false, false, false, false, false, false, false, false, false, false, false] rfl rfl (any_of HT_.out (by kernel_rfl)) (fun _ _ _ h => h) (Or.inl ⟨by rfl, ?_⟩) ?_ ?_
            rotate_left
            · intro w'
              go_simp
              with_reducible rfl
            rotate_left
            · simp only [Act.put, List.setIfInBounds_toArray, List.set_cons_zero, List.set_cons_succ, i64_w, i32_w]
              rfl
            refine pure_ (i := 8) (N := some 57) (v := ?_) (a' := ?_) #[true, true, true, true, true, true, true, true, true, false, false, false, false, false, false, false, false, false, false, false, false, false, false, false, false, false, false, false, false] rfl rfl (any_of HT_.out (by kernel_rfl)) (fun _ _ _ h => h) (Or.inl ⟨by rfl, ?_⟩) ?_ ?_
            rotate_left
            · intro w'
              go_simp
              with_reducible rfl
            rotate_left
            · simp only [Act.put, List.setIfInBounds_toArray, List.set_cons_zero, List.set_cons_succ, i64_w, i32_w]
              rfl
            refine take_ (i := 9) (N := some 58) (v := ?_) (a' := ?_) #[true, true, true, true, true, true, true, true, true, true, false, false, false, false, false, false, false, false, false, false, false, false, false, false, false, false, false, false, false] rfl rfl (take_ofW HT_.out HW_.out (by kernel_rfl)) (fun _ _ _ h => h) (Or.inl ⟨by rfl, ?_⟩) hHeld ?_ ?_
            rotate_left
            · rintro w' ⟨s0, s1, s2, s3, s4, s5, s6, s7, s8, s9, s10, s11, s12, s13, s14⟩
              go_simp
              with_reducible rfl
            rotate_left
            · simp only [Act.put, List.setIfInBounds_toArray, List.set_cons_zero, List.set_cons_succ, i64_w, i32_w]
              rfl
            refine take_ (i := 10) (N := some 59) (v := ?_) (a' := ?_) #[true, true, true, true, true, true, true, true, true, true, true, false, false, false, false, false, false, false, false, false, false, false, false, false, false, false, false, false, false] rfl rfl (take_ofW HT_.out HW_.out (by kernel_rfl)) (fun _ _ _ h => h) (Or.inl ⟨by rfl, ?_⟩) hHeld ?_ ?_
            rotate_left
            · rintro w' ⟨s0, s1, s2, s3, s4, s5, s6, s7, s8, s9, s10, s11, s12, s13, s14⟩
              go_simp
              with_reducible rfl
            rotate_left
            · simp only [Act.put, List.setIfInBounds_toArray, List.set_cons_zero, List.set_cons_succ, i64_w, i32_w]
              rfl
            refine pure_ (i := 11) (N := some 60) (v := ?_) (a' := ?_) #[true, true, true, true, true, true, true, true, true, true, true, true, false, false, false, false, false, false, false, false, false, false, false, false, false, false, false, false, false] rfl rfl (any_of HT_.out (by kernel_rfl)) (fun _ _ _ h => h) (Or.inl ⟨by rfl, ?_⟩) ?_ ?_
            rotate_left
            · intro w'
              go_simp
              with_reducible rfl
            rotate_left
            · simp only [Act.put, List.setIfInBounds_toArray, List.set_cons_zero, List.set_cons_succ, i64_w, i32_w]
              rfl
            refine pure_ (i := 12) (N := some 61) (v := ?_) (a' := ?_) #[true, true, true, true, true, true, true, true, true, true, true, true, true, false, false, false, false, false, false, false, false, false, false, false, false, false, false, false, false] rfl rfl (any_of HT_.out (by kernel_rfl)) (fun _ _ _ h => h) (Or.inl ⟨by rfl, ?_⟩) ?_ ?_
            rotate_left
            · intro w'
              go_simp
              with_reducible rfl
            rotate_left
            · simp only [Act.put, List.setIfInBounds_toArray, List.set_cons_zero, List.set_cons_succ, i64_w, i32_w]
              rfl
            refine pure_ (i := 13) (N := some 62) (v := ?_) (a' := ?_) #[true, true, true, true, true, true, true, true, true, true, true, true, true, true, false, false, false, false, false, false, false, false, false, false, false, false, false, false, false] rfl rfl (any_of HT_.out (by kernel_rfl)) (fun _ _ _ h => h) (Or.inl ⟨by rfl, ?_⟩) ?_ ?_
            rotate_left
            · intro w'
              go_simp
              with_reducible rfl
            rotate_left
            · simp only [Act.put, List.setIfInBounds_toArray, List.set_cons_zero, List.set_cons_succ, i64_w, i32_w]
              rfl
            refine pure_ (i := 14) (N := some 63) (v := ?_) (a' := ?_) #[true, true, true, true, true, true, true, true, true, true, true, true, true, true, true, false, false, false, false, false, false, false, false, false, false, false, false, false, false] rfl rfl (any_of HT_.out (by kernel_rfl)) (fun _ _ _ h => h) (Or.inl ⟨by rfl, ?_⟩) ?_ ?_
            rotate_left
            · intro w'
              go_simp
              with_reducible rfl
            rotate_left
            · simp only [Act.put, List.setIfInBounds_toArray, List.set_cons_zero, List.set_cons_succ, i64_w, i32_w]
              rfl
            refine pure_ (i := 15) (N := some 64) (v := ?_) (a' := ?_) #[true, true, true, true, true, true, true, true, true, true, true, true, true, true, true, true, false, false, false, false, false, false, false, false, false, false, false, false, false] rfl rfl (any_of HT_.out (by kernel_rfl)) (fun _ _ _ h => h) (Or.inl ⟨by rfl, ?_⟩) ?_ ?_
            rotate_left
            · intro w'
              go_simp
              with_reducible rfl
            rotate_left
            · simp only [Act.put, List.setIfInBounds_toArray, List.set_cons_zero, List.set_cons_succ, i64_w, i32_w]
              rfl
            refine pure_ (i := 16) (N := some 65) (v := ?_) (a' := ?_) #[true, true, true, true, true, true, true, true, true, true, true, true, true, true, true, true, true, false, false, false, false, false, false, false, false, false, false, false, false] rfl rfl (any_of HT_.out (by kernel_rfl)) (fun _ _ _ h => h) (Or.inl ⟨by rfl, ?_⟩) ?_ ?_
            rotate_left
            · intro w'
              go_simp
              with_reducible rfl
            rotate_left
            · simp only [Act.put, List.setIfInBounds_toArray, List.set_cons_zero, List.set_cons_succ, i64_w, i32_w]
              rfl
            refine pure_ (i := 17) (N := some 66) (v := ?_) (a' := ?_) #[true, true, true, true, true, true, true, true, true, true, true, true, true, true, true, true, true, true, false, false, false, false, false, false, false, false, false, false, false] rfl rfl (any_of HT_.out (by kernel_rfl)) (fun _ _ _ h => h) (Or.inl ⟨by rfl, ?_⟩) ?_ ?_
            rotate_left
            · intro w'
              go_simp
              with_reducible rfl
            rotate_left
            · simp only [Act.put, List.setIfInBounds_toArray, List.set_cons_zero, List.set_cons_succ, i64_w, i32_w]
              rfl
            refine pure_ (i := 18) (N := some 67) (v := ?_) (a' := ?_) #[true, true, true, true, true, true, true, true, true, true, true, true, true, true, true, true, true, true, true, false, false, false, false, false, false, false, false, false, false] rfl rfl (any_of HT_.out (by kernel_rfl)) (fun _ _ _ h => h) (Or.inl ⟨by rfl, ?_⟩) ?_ ?_
            rotate_left
            · intro w'
              go_simp
              with_reducible rfl
            rotate_left
            · simp only [Act.put, List.setIfInBounds_toArray, List.set_cons_zero, List.set_cons_succ, i64_w, i32_w]
              rfl
            refine take_ (i := 19) (N := some 68) (v := ?_) (a' := ?_) #[true, true, true, true, true, true, true, true, true, true, true, true, true, true, true, true, true, true, true, true, false, false, false, false, false, false, false, false, false] rfl rfl (take_ofW HT_.out HW_.out (by kernel_rfl)) (fun _ _ _ h => h) (Or.inl ⟨by rfl, ?_⟩) hHeld ?_ ?_
            rotate_left
            · rintro w' ⟨s0, s1, s2, s3, s4, s5, s6, s7, s8, s9, s10, s11, s12, s13, s14⟩
              go_simp
              with_reducible rfl
            rotate_left
            · simp only [Act.put, List.setIfInBounds_toArray, List.set_cons_zero, List.set_cons_succ, i64_w, i32_w]
              rfl
            refine take_ (i := 20) (N := some 69) (v := ?_) (a' := ?_) #[true, true, true, true, true, true, true, true, true, true, true, true, true, true, true, true, true, true, true, true, true, false, false, false, false, false, false, false, false] rfl rfl (take_ofW HT_.out HW_.out (by kernel_rfl)) (fun _ _ _ h => h) (Or.inl ⟨by rfl, ?_⟩) hHeld ?_ ?_
            rotate_left
            · rintro w' ⟨s0, s1, s2, s3, s4, s5, s6, s7, s8, s9, s10, s11, s12, s13, s14⟩
              go_simp
              with_reducible rfl
            rotate_left
            · simp only [Act.put, List.setIfInBounds_toArray, List.set_cons_zero, List.set_cons_succ, i64_w, i32_w]
              rfl
            refine pure_ (i := 21) (N := some 70) (v := ?_) (a' := ?_) #[true, true, true, true, true, true, true, true, true, true, true, true, true, true, true, true, true, true, true, true, true, true, false, false, false, false, false, false, false] rfl rfl (any_of HT_.out (by kernel_rfl)) (fun _ _ _ h => h) (Or.inl ⟨by rfl, ?_⟩) ?_ ?_
            rotate_left
            · intro w'
              go_simp
              with_reducible rfl
            rotate_left
            · simp only [Act.put, List.setIfInBounds_toArray, List.set_cons_zero, List.set_cons_succ, i64_w, i32_w]
              rfl
            refine pure_ (i := 22) (N := some 71) (v := ?_) (a' := ?_) #[true, true, true, true, true, true, true, true, true, true, true, true, true, true, true, true, true, true, true, true, true, true, true, false, false, false, false, false, false] rfl rfl (any_of HT_.out (by kernel_rfl)) (fun _ _ _ h => h) (Or.inl ⟨by rfl, ?_⟩) ?_ ?_
            rotate_left
            · intro w'
              go_simp
              with_reducible rfl
            rotate_left
            · simp only [Act.put, List.setIfInBounds_toArray, List.set_cons_zero, List.set_cons_succ, i64_w, i32_w]
              rfl
            refine pure_ (i := 23) (N := some 72) (v := ?_) (a' := ?_) #[true, true, true, true, true, true, true, true, true, true, true, true, true, true, true, true, true, true, true, true, true, true, true, true, false, false, false, false, false] rfl rfl (any_of HT_.out (by kernel_rfl)) (fun _ _ _ h => h) (Or.inl ⟨by rfl, ?_⟩) ?_ ?_
            rotate_left
            · intro w'
              go_simp
              with_reducible rfl
            rotate_left
            · simp only [Act.put, List.setIfInBounds_toArray, List.set_cons_zero, List.set_cons_succ, i64_w, i32_w]
              rfl
            refine pure_ (i := 24) (N := some 73) (v := ?_) (a' := ?_) #[true, true, true, true, true, true, true, true, true, true, true, true, true, true, true, true, true, true, true, true, true, true, true, true, true, false, false, false, false] rfl rfl (any_of HT_.out (by kernel_rfl)) (fun _ _ _ h => h) (Or.inl ⟨by rfl, ?_⟩) ?_ ?_
            rotate_left
            · intro w'
              go_simp
              with_reducible rfl
            rotate_left
            · simp only [Act.put, List.setIfInBounds_toArray, List.set_cons_zero, List.set_cons_succ, i64_w, i32_w]
              rfl
            refine pure_ (i := 25) (N := some 74) (v := ?_) (a' := ?_) #[true, true, true, true, true, true, true, true, true, true, true, true, true, true, true, true, true, true, true, true, true, true, true, true, true, true, false, false, false] rfl rfl (any_of HT_.out (by kernel_rfl)) (fun _ _ _ h => h) (Or.inl ⟨by rfl, ?_⟩) ?_ ?_
            rotate_left
            · intro w'
              go_simp
              with_reducible rfl
            rotate_left
            · simp only [Act.put, List.setIfInBounds_toArray, List.set_cons_zero, List.set_cons_succ, i64_w, i32_w]
              rfl
            refine pure_ (i := 26) (N := some 75) (v := ?_) (a' := ?_) #[true, true, true, true, true, true, true, true, true, true, true, true, true, true, true, true, true, true, true, true, true, true, true, true, true, true, true, false, false] rfl rfl (any_of HT_.out (by kernel_rfl)) (fun _ _ _ h => h) (Or.inl ⟨by rfl, ?_⟩) ?_ ?_
            rotate_left
            · intro w'
              go_simp
              with_reducible rfl
            rotate_left
            · simp only [Act.put, List.setIfInBounds_toArray, List.set_cons_zero, List.set_cons_succ, i64_w, i32_w]
              rfl
            refine pure_ (i := 27) (N := some 76) (v := ?_) (a' := ?_) #[true, true, true, true, true, true, true, true, true, true, true, true, true, true, true, true, true, true, true, true, true, true, true, true, true, true, true, true, false] rfl rfl (any_of HT_.out (by kernel_rfl)) (fun _ _ _ h => h) (Or.inl ⟨by rfl, ?_⟩) ?_ ?_
            rotate_left
            · intro w'
              go_simp
              with_reducible rfl
            rotate_left
            · simp only [Act.put, List.setIfInBounds_toArray, List.set_cons_zero, List.set_cons_succ, i64_w, i32_w]
              rfl
            refine pure_ (i := 28) (N := some 6) (v := ?_) (a' := ?_) #[true, true, true, true, true, true, true, true, true, true, true, true, true, true, true, true, true, true, true, true, true, true, true, true, true, true, true, true, true] rfl rfl (any_of HT_.out (by kernel_rfl)) (fun _ _ _ h => h) (Or.inl ⟨by rfl, ?_⟩) ?_ ?_
            rotate_left
            · intro w'
              go_simp
              with_reducible rfl
            rotate_left
            · simp only [Act.put, List.setIfInBounds_toArray, List.set_cons_zero, List.set_cons_succ, i64_w, i32_w]
              rfl
            refine done_ (done_of HT_.out (by kernel_rfl)) ?_
            try go_wp2
            go_ret
            exact ⟨by first | rfl | (simp [errW_none, errW_some] <;> rfl) | (simp [*, errW_none, errW_some] <;> rfl), by repeat (first | (with_reducible first | exact HB.out | apply below_alloc | apply pw_below_drewN | apply below_drew1 | refine below_set ?_ GE129.out | refine below_set ?_ GE136.out | refine below_set ?_ GE141.out | refine below_set ?_ GE147.out | refine below_set ?_ GE153.out) | exact HB.out)⟩
          · rw [if_neg c18] at H
            have c18b0 : (t143 == t149 && (t144 == t150 && (t145.toList == t151.toList))) = false := by simpa using c18
            (try (have c18b1 : decide (t143 = t149 && (t144 == t150 && (t145.toList == t151.toList))) = false := by simpa using c18))
            (try (have c18b2 : (t143 == t149 && (t144 == t150 && (t145.toList == t151.toList))) = false := by simpa using c18))
            (try (have c18b3 : ¬ (t143 = t149 && (t144 == t150 && (t145.toList == t151.toList))) := by simpa using c18))
            clear c18
            exact absurd H (by subst hrt; simp)
        · rw [if_neg c17] at H
          have c17b0 : (t135 == t140) = false := beq_eq_false_iff_ne.mpr c17
          have c17b1 : (t135 != t140) = true := bne_iff_ne.mpr c17
          exact absurd H (by subst hrt; simp)
      · rw [if_neg c16] at H
        have c16b0 : (t132 == t137 && (t133 == t138 && (t134.toList == t139.toList))) = false := by simpa using c16
        (try (have c16b1 : decide (t132 = t137 && (t133 == t138 && (t134.toList == t139.toList))) = false := by simpa using c16))
        (try (have c16b2 : (t132 == t137 && (t133 == t138 && (t134.toList == t139.toList))) = false := by simpa using c16))
        (try (have c16b3 : ¬ (t132 = t137 && (t133 == t138 && (t134.toList == t139.toList))) := by simpa using c16))
        clear c16
        exact absurd H (by subst hrt; simp)
    · rw [if_neg c15] at H
      have c15b0 : (t154 == t155) = false := by simpa using c15
      (try (have c15b1 : decide (t154 = t155) = false := by simpa using c15))
      (try (have c15b2 : (t154 == t155) = false := by simpa using c15))
      (try (have c15b3 : ¬ (t154 = t155) := by simpa using c15))
      clear c15
      exact absurd H (by subst hrt; simp)
  · replace c12 := Bool.eq_false_iff.mpr c12
    subst c12
    have H1 : (some false) = some r := by rw [if_neg (show ¬ (false = true) by decide)] at H; exact H
    clear H
    have H := H1
    clear H1
    exact absurd H (by subst hrt; simp)
end Go.Proofs.Ytnllilpbgenjbaa.P
