/- Ballots: what areShort, Right, Promise, Cast of the program tell. -/
import Derived.WalkKit
import Derived.Handy
import Derived.Lib.Hide
import Derived.Deep.RegionHeld3
import Derived.Deep.QuietTactic
import Derived.BigQuiet
import Derived.Test.YtnllilpbgenjbaaProg
import Derived.Test.YtnllilpbgenjbaaWWords
import Derived.Test.YtnllilpbgenjbaaLib
namespace Go.Proofs.Ytnllilpbgenjbaa.G
open Go.RowKit Go.Proofs.YtnllilpbgenjbaaW.PrintWords

theorem areShort1.same (s : ByteArray) (w : World) :
    Calls Try.prog 29 #[.string s] w fun e w' => e = .returned (.bool (decide (4000 < (s.size : Int)))) ∧ w = w' := by
  go_enter Try.func29, Try.ntmps29
  go_wp2
  go_ret
  exact ⟨rfl, rfl⟩
set_option maxHeartbeats 1000000 in
theorem indexStr.same (B c : Nat) (s : ByteArray) (w : World) (hc : w.cell? ⟨B, 0, none⟩ = some (.string s)) :
    Calls Try.prog 33 #[.slice (some ⟨B, 0, none⟩) 1 c, .func (.func 29) #[] #[]] w fun e w' => e = .returned (.int .i64 (if 4000 < s.size then 0 else -1)) ∧ w = w' := by
  by_cases h : 4000 < s.size
  · have hd : decide (4000 < (s.size : Int)) = true := by simp; omega
    rw [if_pos h]
    go_enter Try.func33, Try.ntmps33
    go_wp2
    refine wp_loop_rounds 2 ?_
    rw [rounds_succ]
    go_wp2_with (go_at_call 29; refine (areShort1.same _ _).mono ?_; rintro e w' ⟨rfl, rfl⟩)
    go_ret
    exact ⟨rfl, rfl⟩
  · have hd : decide (4000 < (s.size : Int)) = false := by simp; omega
    rw [if_neg h]
    go_enter Try.func33, Try.ntmps33
    go_wp2
    refine wp_loop_rounds 2 ?_
    rw [rounds_succ]
    go_wp2_with (go_at_call 29; refine (areShort1.same _ _).mono ?_; rintro e w' ⟨rfl, rfl⟩)
    rw [rounds_succ]
    go_wp2
    go_ret
    exact ⟨rfl, rfl⟩
theorem containsStr.same (B c : Nat) (s : ByteArray) (w : World) (hc : w.cell? ⟨B, 0, none⟩ = some (.string s)) :
    Calls Try.prog 28 #[.slice (some ⟨B, 0, none⟩) 1 c, .func (.func 29) #[] #[]] w fun e w' => e = .returned (.bool (decide (4000 < s.size))) ∧ w = w' := by
  go_enter Try.func28, Try.ntmps28
  by_cases h : 4000 < s.size
  · have hi : (if 4000 < s.size then (0 : Int) else -1) = 0 := if_pos h
    go_wp2_with (go_at_call 33; refine (indexStr.same _ _ _ _ hc).mono ?_; rintro e w' ⟨rfl, rfl⟩)
    go_ret
    exact ⟨by simp [h], rfl⟩
  · have hi : (if 4000 < s.size then (0 : Int) else -1) = -1 := if_neg h
    go_wp2_with (go_at_call 33; refine (indexStr.same _ _ _ _ hc).mono ?_; rintro e w' ⟨rfl, rfl⟩)
    go_ret
    exact ⟨by simp [h], rfl⟩
theorem areShort.same (B c : Nat) (s : ByteArray) (w : World) (hc : w.cell? ⟨B, 0, none⟩ = some (.string s)) :
    Calls Try.prog 25 #[.slice (some ⟨B, 0, none⟩) 1 c] w fun e w' => e = .returned (.bool (decide (s.size ≤ 4000))) ∧ w = w' := by
  go_enter Try.func25, Try.ntmps25
  go_wp2_with (go_at_call 28; refine (containsStr.same _ _ _ _ hc).mono ?_; rintro e w' ⟨rfl, rfl⟩)
  go_ret
  refine ⟨?_, rfl⟩
  by_cases h : 4000 < s.size
  · simp [h, show ¬ s.size ≤ 4000 by omega]
  · simp [h, show s.size ≤ 4000 by omega]

def rightS (p b : Int) (v : ByteArray) : Bool := decide (v.size ≤ 4000) && (decide (b ≤ p) && (decide (b = 0 ∧ v.size = 0) || decide (0 < b)))
theorem empty_of_size {v : ByteArray} (h : v.size = 0) : v = ⟨#[]⟩ := by
  apply ByteArray.ext
  exact Array.eq_empty_of_size_eq_zero h
theorem ret_bool {a b : Bool} (h : a = b) : Ending.returned (.bool a) = .returned (.bool b) := by rw [h]
set_option maxRecDepth 100000 in
set_option maxHeartbeats 4000000 in
theorem Right.exact (p b : Int) (v : ByteArray) (w : World) :
    Calls Try.prog 16 #[.agg #[.int .u64 p, .int .u64 b, .string v]] w fun e w' => e = .returned (.bool (rightS p b v)) ∧ ((w.alloc (.cells #[.int .u64 p, .int .u64 b, .string v] 24)).alloc (.cells #[.string v] 9)) = w' := by
  by_cases hs : v.size ≤ 4000
  · have hs' : decide (v.size ≤ 4000) = true := by simpa using hs
    by_cases hb : b ≤ p
    · have hbd : decide (b ≤ p) = true := by simpa using hb
      by_cases h0 : b = 0
      · subst h0
        by_cases hv : v.size = 0
        · have hr : rightS p 0 v = true := by unfold rightS; simp [hv, hb]
          have he : v.toList = [] := by rw [empty_of_size hv, ByteArray.toList_eq]
          rw [hr]
          have HV := Lib.hid hv; clear hv
          have HR := Lib.hid hr; clear hr
          go_enter Try.func16, Try.ntmps16
          go_wp2_with (go_at_call 25; refine (areShort.same _ _ v _ (by simp)).mono ?_; rintro e w' ⟨rfl, rfl⟩)
          go_ret
          exact ⟨rfl, rfl⟩
        · have hr : rightS p 0 v = false := by unfold rightS; simp [hv]
          have he : (v.toList == []) = false := by
            rw [Bool.eq_false_iff]
            intro h
            apply hv
            rw [ByteArray.toList_eq] at h
            have := congrArg List.length (eq_of_beq h)
            rw [Array.length_toList] at this
            exact this
          have he2 : v.toList.isEmpty = false := by rw [← he]; cases v.toList <;> rfl
          rw [hr]
          have HV := Lib.hid hv; clear hv
          have HR := Lib.hid hr; clear hr
          go_enter Try.func16, Try.ntmps16
          go_wp2_with (go_at_call 25; refine (areShort.same _ _ v _ (by simp)).mono ?_; rintro e w' ⟨rfl, rfl⟩)
          go_ret
          exact ⟨rfl, rfl⟩
      · have hr : rightS p b v = decide (0 < b) := by unfold rightS; simp [h0, hs, hb]
        have hbe : (b == 0) = false := by simpa using h0
        rw [hr]
        have H0 := Lib.hid h0; clear h0
        have HR := Lib.hid hr; clear hr
        go_enter Try.func16, Try.ntmps16
        go_wp2_with (go_at_call 25; refine (areShort.same _ _ v _ (by simp)).mono ?_; rintro e w' ⟨rfl, rfl⟩)
        go_ret
        exact ⟨rfl, rfl⟩
    · have hr : rightS p b v = false := by unfold rightS; simp [hb]
      rw [hr]
      have HR := Lib.hid hr; clear hr
      by_cases h0 : b = 0
      · subst h0
        have hbd : decide (0 ≤ p) = false := by simpa using hb
        have H0 := Lib.hid hb; clear hb
        go_enter Try.func16, Try.ntmps16
        go_wp2_with (go_at_call 25; refine (areShort.same _ _ v _ (by simp)).mono ?_; rintro e w' ⟨rfl, rfl⟩)
        all_goals (go_ret; exact ⟨rfl, rfl⟩)
      · have hbd : decide (b ≤ p) = false := by simpa using hb
        have hbe : (b == 0) = false := by simpa using h0
        have H0 := Lib.hid h0; clear h0
        have H1 := Lib.hid hb; clear hb
        go_enter Try.func16, Try.ntmps16
        go_wp2_with (go_at_call 25; refine (areShort.same _ _ v _ (by simp)).mono ?_; rintro e w' ⟨rfl, rfl⟩)
        all_goals (go_ret; exact ⟨rfl, rfl⟩)
  · have hr : rightS p b v = false := by unfold rightS; simp [hs]
    have hs' : decide (v.size ≤ 4000) = false := by simpa using hs
    rw [hr]
    have HR := Lib.hid hr; clear hr
    have H0 := Lib.hid hs; clear hs
    by_cases h0 : b = 0
    · subst h0
      go_enter Try.func16, Try.ntmps16
      go_wp2_with (go_at_call 25; refine (areShort.same _ _ v _ (by simp)).mono ?_; rintro e w' ⟨rfl, rfl⟩)
      all_goals (go_ret; exact ⟨rfl, rfl⟩)
    · have hbe : (b == 0) = false := by simpa using h0
      have H1 := Lib.hid h0; clear h0
      go_enter Try.func16, Try.ntmps16
      go_wp2_with (go_at_call 25; refine (areShort.same _ _ v _ (by simp)).mono ?_; rintro e w' ⟨rfl, rfl⟩)
      all_goals (go_ret; exact ⟨rfl, rfl⟩)
theorem Right.below (p b : Int) (v : ByteArray) (w : World) :
    Calls Try.prog 16 #[.agg #[.int .u64 p, .int .u64 b, .string v]] w fun e w' => e = .returned (.bool (rightS p b v)) ∧ Below w.heap.size w w' :=
  (Right.exact p b v w).mono fun e w' ⟨he, hw⟩ => ⟨he, hw ▸ ((Below.refl _ w).alloc (Nat.le_refl _) _).alloc (by simp) _⟩
/-! ### Promise, Cast -/
def promiseS (p b : Int) (v : ByteArray) (x : Int) : Int × Int × ByteArray × Int :=
  if rightS p b v = false ∨ x = 0 then (0, 0, ⟨#[]⟩, 2) else if x ≤ p then (0, 0, ⟨#[]⟩, 80) else (x, b, v, 0)
def voteV (r : Int × Int × ByteArray × Int) : Value := .tuple #[.agg #[.int .u64 r.1, .int .u64 r.2.1, .string r.2.2.1], .int .i64 r.2.2.2]
set_option maxRecDepth 100000 in
set_option maxHeartbeats 4000000 in
theorem Promise.below (p b : Int) (v : ByteArray) (x : Int) (w : World) :
    Calls Try.prog 12 #[.agg #[.int .u64 p, .int .u64 b, .string v], .int .u64 x] w fun e w' => e = .returned (voteV (promiseS p b v x)) ∧ Below w.heap.size w w' := by
  by_cases hr : rightS p b v = true
  · by_cases hx : x = 0
    · have hs : promiseS p b v x = (0, 0, ⟨#[]⟩, 2) := by unfold promiseS; rw [if_pos (.inr hx)]
      rw [hs]
      have HS := Lib.hid hs; clear hs
      subst hx
      · go_enter Try.func12, Try.ntmps12
        go_wp2_with ((go_at_call 16; refine (Right.exact _ _ _ _).mono ?_; rintro e w1 ⟨rfl, rfl⟩))
        refine bodyPost_ret (v := voteV (0, 0, ⟨#[]⟩, 2)) (by simp [results, Try.results12, go_sem, voteV]) rfl ⟨rfl, by go_grown⟩
    · have hx0 : (x == 0) = false := by simpa using hx
      by_cases hxp : x ≤ p
      · have hs : promiseS p b v x = (0, 0, ⟨#[]⟩, 80) := by unfold promiseS; rw [if_neg (by rintro (h | h); rw [hr] at h; cases h; exact hx h), if_pos hxp]
        have hxd : decide (x ≤ p) = true := by simpa using hxp
        rw [hs]
        have HS := Lib.hid hs; clear hs
        have H0 := Lib.hid hx; clear hx
        go_enter Try.func12, Try.ntmps12
        go_wp2_with ((go_at_call 16; refine (Right.exact _ _ _ _).mono ?_; rintro e w1 ⟨rfl, rfl⟩))
        refine bodyPost_ret (v := voteV (0, 0, ⟨#[]⟩, 80)) (by simp [results, Try.results12, go_sem, voteV]) rfl ⟨rfl, by go_grown⟩
      · have hs : promiseS p b v x = (x, b, v, 0) := by unfold promiseS; rw [if_neg (by rintro (h | h); rw [hr] at h; cases h; exact hx h), if_neg hxp]
        have hxd : decide (x ≤ p) = false := by simpa using hxp
        rw [hs]
        have HS := Lib.hid hs; clear hs
        have H0 := Lib.hid hx; clear hx
        go_enter Try.func12, Try.ntmps12
        go_wp2_with ((go_at_call 16; refine (Right.exact _ _ _ _).mono ?_; rintro e w1 ⟨rfl, rfl⟩))
        refine bodyPost_ret (v := voteV (x, b, v, 0)) (by simp [results, Try.results12, go_sem, voteV]) rfl ⟨rfl, by go_grown⟩
  · have hr' : rightS p b v = false := by simpa using hr
    have hs : promiseS p b v x = (0, 0, ⟨#[]⟩, 2) := by unfold promiseS; rw [if_pos (.inl hr')]
    rw [hs]
    have HS := Lib.hid hs; clear hs
    have HR := Lib.hid hr; clear hr
    · ·
        go_enter Try.func12, Try.ntmps12
        go_wp2_with ((go_at_call 16; refine (Right.exact _ _ _ _).mono ?_; rintro e w1 ⟨rfl, rfl⟩))
        refine bodyPost_ret (v := voteV (0, 0, ⟨#[]⟩, 2)) (by simp [results, Try.results12, go_sem, voteV]) rfl ⟨rfl, by go_grown⟩

def castS (p b : Int) (v : ByteArray) (x : Int) (y : ByteArray) : Int × Int × ByteArray × Int :=
  if rightS p b v = false ∨ x = 0 ∨ ¬ y.size ≤ 4000 then (0, 0, ⟨#[]⟩, 2) else if x < p then (0, 0, ⟨#[]⟩, 80) else (x, x, y, 0)
set_option maxRecDepth 100000 in
set_option maxHeartbeats 4000000 in
theorem Cast.below (p b : Int) (v : ByteArray) (x : Int) (y : ByteArray) (w : World) :
    Calls Try.prog 14 #[.agg #[.int .u64 p, .int .u64 b, .string v], .int .u64 x, .string y] w fun e w' => e = .returned (voteV (castS p b v x y)) ∧ Below w.heap.size w w' := by
  by_cases hr : rightS p b v = true
  · by_cases hx : x = 0
    · have hs : castS p b v x y = (0, 0, ⟨#[]⟩, 2) := by unfold castS; rw [if_pos (.inr (.inl hx))]
      rw [hs]
      have HS := Lib.hid hs; clear hs
      subst hx
      · go_enter Try.func14, Try.ntmps14
        go_wp2_with (first | (go_at_call 16; refine (Right.exact _ _ _ _).mono ?_; rintro e w1 ⟨rfl, rfl⟩) | (go_at_call 25; refine (areShort.same _ _ y _ ?hcy).mono ?_; (case hcy => (first | go_cell | (simp [go_sem]; done))); rintro e w' ⟨rfl, rfl⟩))
        refine bodyPost_ret (v := voteV (0, 0, ⟨#[]⟩, 2)) (by simp [results, Try.results14, go_sem, voteV]) rfl ⟨rfl, by go_grown⟩
    · have hx0 : (x == 0) = false := by simpa using hx
      by_cases hy : y.size ≤ 4000
      · have hyd : decide (y.size ≤ 4000) = true := by simpa using hy
        by_cases hxp : x < p
        · have hs : castS p b v x y = (0, 0, ⟨#[]⟩, 80) := by unfold castS; rw [if_neg (by rintro (h | h | h); rw [hr] at h; cases h; exact hx h; exact h hy), if_pos hxp]
          have hxd : decide (x < p) = true := by simpa using hxp
          rw [hs]
          have HS := Lib.hid hs; clear hs
          have H0 := Lib.hid hx; clear hx
          have HY := Lib.hid hy; clear hy
          ·
            go_enter Try.func14, Try.ntmps14
            go_wp2_with (first | (go_at_call 16; refine (Right.exact _ _ _ _).mono ?_; rintro e w1 ⟨rfl, rfl⟩) | (go_at_call 25; refine (areShort.same _ _ y _ ?hcy).mono ?_; (case hcy => (first | go_cell | (simp [go_sem]; done))); rintro e w' ⟨rfl, rfl⟩))
            refine bodyPost_ret (v := voteV (0, 0, ⟨#[]⟩, 80)) (by simp [results, Try.results14, go_sem, voteV]) rfl ⟨rfl, by go_grown⟩
        · have hs : castS p b v x y = (x, x, y, 0) := by unfold castS; rw [if_neg (by rintro (h | h | h); rw [hr] at h; cases h; exact hx h; exact h hy), if_neg hxp]
          have hxd : decide (x < p) = false := by simpa using hxp
          rw [hs]
          have HS := Lib.hid hs; clear hs
          have H0 := Lib.hid hx; clear hx
          have HY := Lib.hid hy; clear hy
          ·
            go_enter Try.func14, Try.ntmps14
            go_wp2_with (first | (go_at_call 16; refine (Right.exact _ _ _ _).mono ?_; rintro e w1 ⟨rfl, rfl⟩) | (go_at_call 25; refine (areShort.same _ _ y _ ?hcy).mono ?_; (case hcy => (first | go_cell | (simp [go_sem]; done))); rintro e w' ⟨rfl, rfl⟩))
            refine bodyPost_ret (v := voteV (x, x, y, 0)) (by simp [results, Try.results14, go_sem, voteV]) rfl ⟨rfl, by go_grown⟩
      · have hyd : decide (y.size ≤ 4000) = false := by simpa using hy
        have hs : castS p b v x y = (0, 0, ⟨#[]⟩, 2) := by unfold castS; rw [if_pos (.inr (.inr hy))]
        rw [hs]
        have HS := Lib.hid hs; clear hs
        have H0 := Lib.hid hx; clear hx
        have HY := Lib.hid hy; clear hy
        go_enter Try.func14, Try.ntmps14
        go_wp2_with (first | (go_at_call 16; refine (Right.exact _ _ _ _).mono ?_; rintro e w1 ⟨rfl, rfl⟩) | (go_at_call 25; refine (areShort.same _ _ y _ ?hcy).mono ?_; (case hcy => (first | go_cell | (simp [go_sem]; done))); rintro e w' ⟨rfl, rfl⟩))
        refine bodyPost_ret (v := voteV (0, 0, ⟨#[]⟩, 2)) (by simp [results, Try.results14, go_sem, voteV]) rfl ⟨rfl, by go_grown⟩
  · have hr' : rightS p b v = false := by simpa using hr
    have hs : castS p b v x y = (0, 0, ⟨#[]⟩, 2) := by unfold castS; rw [if_pos (.inl hr')]
    rw [hs]
    have HS := Lib.hid hs; clear hs
    have HR := Lib.hid hr; clear hr
    · ·
        go_enter Try.func14, Try.ntmps14
        go_wp2_with (first | (go_at_call 16; refine (Right.exact _ _ _ _).mono ?_; rintro e w1 ⟨rfl, rfl⟩) | (go_at_call 25; refine (areShort.same _ _ y _ ?hcy).mono ?_; (case hcy => (first | go_cell | (simp [go_sem]; done))); rintro e w' ⟨rfl, rfl⟩))
        refine bodyPost_ret (v := voteV (0, 0, ⟨#[]⟩, 2)) (by simp [results, Try.results14, go_sem, voteV]) rfl ⟨rfl, by go_grown⟩

end Go.Proofs.Ytnllilpbgenjbaa.G
