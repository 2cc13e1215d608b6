/- Ballots: what is decided, all ways. -/
import Derived.Test.YtnllilpbgenjbaaBalE
import Derived.RegionIn
import Derived.IntWalk
namespace Go.Proofs.Ytnllilpbgenjbaa.G
open Go.RowKit Go.Shelf Go.Proofs.YtnllilpbgenjbaaW.PrintWords Go.Proofs.Ytnllilpbgenjbaa.P
attribute [local go_sem] Oper.semAt_some run_makeMap

theorem Decided.group (A : Option Addr) (c : Nat) (ls : List S24) (hl : ls.length ≤ 140737488351232) (w : World) (h : ls.length < 1 ∨ 16 < ls.length) :
    Calls Try.prog 19 #[.slice A ls.length c] w fun e w' => e = .returned (.tuple #[.string ⟨#[]⟩, .bool false, .int .i64 81]) ∧ Below w.heap.size w w' := by
  by_cases h1 : ls.length < 1
  · have d1 : decide ((ls.length : Int) < 1) = true := by simp; omega
    go_enter Try.func19, Try.ntmps19
    go_wp2
    refine bodyPost_ret (v := .tuple #[.string ⟨#[]⟩, .bool false, .int .i64 81]) (by simp [results, Try.results19, go_sem]) rfl ⟨rfl, by go_grown⟩
  · have d1 : decide ((ls.length : Int) < 1) = false := by simp; omega
    have d2 : decide (16 < (ls.length : Int)) = true := by simp; omega
    go_enter Try.func19, Try.ntmps19
    go_wp2
    refine bodyPost_ret (v := .tuple #[.string ⟨#[]⟩, .bool false, .int .i64 81]) (by simp [results, Try.results19, go_sem]) rfl ⟨rfl, by go_grown⟩
theorem Decided.arg (A : Option Addr) (c : Nat) (ls : List S24) (w : World) (hC : Kd.C k24 w A ls.length ls) (h1 : 1 ≤ ls.length) (h2 : ls.length ≤ 16) (hr : ls.all rightV = false) :
    Calls Try.prog 19 #[.slice A ls.length c] w fun e w' => e = .returned (.tuple #[.string ⟨#[]⟩, .bool false, .int .i64 2]) ∧ Below w.heap.size w w' := by
  have d1 : decide ((ls.length : Int) < 1) = false := by simp; omega
  have d2 : decide (16 < (ls.length : Int)) = false := by simp; omega
  go_enter Try.func19, Try.ntmps19
  go_wp2_with (first | (go_at_call 26; refine (areRight.below _ _ _ (by omega) _ (Kd.C_below hC (by go_grown))).mono ?_; rintro e w1 ⟨rfl, hb1⟩; have hz1 := hb1.size; obtain ⟨x0, x1, x2, x3, hz, hB1⟩ := four_boxes _ _ _ _ _ _ _ _ _ _ hb1; have c1 := x1.cell; have c2 := x2.cell; have c3 := x3.cell; have f1 := x1.frozen; have f2 := x2.frozen; have f3 := x3.frozen))
  refine bodyPost_ret (v := .tuple #[.string ⟨#[]⟩, .bool false, .int .i64 2]) ?_ rfl ⟨rfl, ((hB1.setCell (p := ⟨w.heap.size + 1, 0, none⟩) (by show _ ≤ w.heap.size + 1; omega) _).setCell (p := ⟨w.heap.size + 1 + 1, 0, none⟩) (by show _ ≤ w.heap.size + 1 + 1; omega) _).setCell (p := ⟨w.heap.size + 1 + 1 + 1, 0, none⟩) (by show _ ≤ w.heap.size + 1 + 1 + 1; omega) _⟩
  exact results_cells3 rfl _ _ rfl rfl rfl (((x1.set _).other (by omega) _).other (by omega) _) (((x2.other (by omega) _).set _).other (by omega) _) (((x3.other (by omega) _).other (by omega) _).set _) (fun _ h => load_str h) (fun _ h => load_bool h) (fun _ h => load_errno h)
theorem Decided.below (A : Option Addr) (c : Nat) (ls : List S24) (hl : ls.length ≤ 140737488351232) (w : World) (hC : Kd.C k24 w A ls.length ls) :
    Calls Try.prog 19 #[.slice A ls.length c] w fun e w' => e = .returned (.tuple #[.string (decidedS ls).1, .bool (decidedS ls).2.1, .int .i64 (decidedS ls).2.2]) ∧ Below w.heap.size w w' := by
  by_cases h : ls.length < 1 ∨ 16 < ls.length
  · have : decidedS ls = (⟨#[]⟩, false, 81) := by unfold decidedS; rw [if_pos h]
    rw [this]; exact Decided.group A c ls hl w h
  · by_cases hr : ls.all rightV = false
    · have : decidedS ls = (⟨#[]⟩, false, 2) := by unfold decidedS; rw [if_neg h, if_pos hr]
      rw [this]; exact Decided.arg A c ls w hC (by omega) (by omega) hr
    · exact Decided.yes A c ls w hC (by omega) (by omega) (by simpa using hr)
end Go.Proofs.Ytnllilpbgenjbaa.G
