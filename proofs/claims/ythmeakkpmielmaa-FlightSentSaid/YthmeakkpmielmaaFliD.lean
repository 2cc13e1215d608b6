/- What is on its way: text, Same. -/
import Derived.Test.YthmeakkpmielmaaFliC
namespace Go.Proofs.Ythmeakkpmielmaa.G
open Go.RowKit Go.Proofs.YthmeakkpmielmaaW.PrintWords Go.Proofs.YthmeakkpmielmaaW.PrintMore Go.Proofs.Ythmeakkpmielmaa.P
set_option linter.unusedVariables false
set_option linter.unusedSimpArgs false
attribute [local go_sem] Oper.semAt_some max2_int min2_int max_two min_two

/-- The first hundred bytes. -/
def cutS (s : ByteArray) : ByteArray := s.extract 0 (min s.size 100)
theorem und_str : Try.prog.underlying 9 = some .string := by kernel_rfl
theorem cutS_run (s : ByteArray) : ∃ j : Int, (if (100 : Int) < (s.size : Int) then (100 : Int) else (s.size : Int)) = j ∧ ∀ w, (Instr.slice 9 (.string s) none (some (.int .i64 j)) none).run Try.prog w = .ok (.string (cutS s)) w := by
  refine ⟨((min s.size 100 : Nat) : Int), ?_, fun w => ?_⟩
  · split <;> omega
  · rw [run_slice_string_h w 9 s und_str .i64 _ (by omega) (by omega)]
    rfl
theorem cutS_size (s : ByteArray) : (cutS s).size ≤ 100 := by
  unfold cutS
  simp
  omega
def actV (x : S38) : Value := .agg #[.int .i64 x.f0, .int .i64 x.f1, .int .i64 x.f2, .int .u32 x.f3, .string x.f4]
set_option maxRecDepth 100000 in
set_option maxHeartbeats 4000000 in
theorem text.is (x : S38) (w : World) (hs : x.f4.size ≤ maxLen) : Calls Try.prog 15 #[.agg #[.int .i64 x.f0, .int .i64 x.f1, .int .i64 x.f2, .int .u32 x.f3, .string x.f4]] w fun e w' => e = .returned (.string (cutS x.f4)) ∧ w.alloc (.cells #[.int .i64 x.f0, .int .i64 x.f1, .int .i64 x.f2, .int .u32 x.f3, .string x.f4] 38) = w' := by
  unfold maxLen at hs
  obtain ⟨j, hj, hr⟩ := cutS_run x.f4
  go_enter Try.func15, Try.ntmps15
  go_wp2
  go_ret
  exact ⟨rfl, rfl⟩
set_option maxRecDepth 100000 in
set_option maxHeartbeats 4000000 in
theorem Same.yes (A0 A1 : Option Addr) (c0 c1 n0 n1 : Nat) (l : List S35) (w : World) (h0 : Kd.C k35 w A0 l.length l) (h1 : Kd.C k35 w A1 l.length l) (hl : l.length ≤ 1000000) (e0 : l.length = n0) (e1 : l.length = n1) :
    Calls Try.prog 18 #[.slice A0 n0 c0, .slice A1 n1 c1] w fun e w' => e = .returned (.bool true) ∧ ∃ n, w.drewN n = w' := by
  subst e0 e1
  go_enter Try.func18, Try.ntmps18
  go_wp2
  go_loopw [5] (fun i wr => ∃ k m : Nat, k ≤ l.length ∧ i = .int .i64 k ∧ w.drewN m = wr) (fun i _ => l.length - (intOf i).toNat)
  case atStart => exact ⟨0, 0, Nat.zero_le _, rfl, rfl⟩
  case round =>
    obtain ⟨k, m, hk, rfl, rfl⟩ := hrel
    by_cases hlt : k < l.length
    · obtain ⟨ad, hAd, x0, x1, x2⟩ := at_T35 h0 (k : Int) (by omega) (by omega)
      obtain ⟨ae, hAe, y0, y1, y2⟩ := at_T35 h1 (k : Int) (by omega) (by omega)
      rw [rd_get_35 l k hlt] at x0 x1 x2 y0 y1 y2
      simp only [Int.toNat_natCast] at x0 x1 x2 y0 y1 y2
      subst hAd hAe
      go_wp2
      go_quiet (fail)
      go_wp2
      go_roundw
      case rel => exact ⟨k + 1, m + nq, by omega, by go_num, rfl⟩
      case measure => simp [intOf]; omega
    · obtain rfl : k = l.length := by omega
      go_wp2
      go_ret
      exact ⟨rfl, m, rfl⟩
end Go.Proofs.Ythmeakkpmielmaa.G
