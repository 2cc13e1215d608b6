/- What is on its way: shown, text, Same. -/
import Derived.Test.YthmeakkpmielmaaFliB
import Derived.Test.YthmeakkpmielmaaWEqStruct
namespace Go.Proofs.Ythmeakkpmielmaa.G
open Go.RowKit Go.Proofs.YthmeakkpmielmaaW.PrintWords Go.Proofs.YthmeakkpmielmaaW.PrintMore Go.Proofs.Ythmeakkpmielmaa.P
set_option linter.unusedVariables false
set_option linter.unusedSimpArgs false
attribute [local go_sem] Oper.semAt_some max2_int min2_int max_two min_two

def xb : ByteArray := ⟨#[120]⟩
theorem sh1 : sendF ⟨0, []⟩ 3 xb = (⟨1, [⟨1, 3, xb⟩]⟩, 1, 0) := by rfl
theorem sh2 : copyF ⟨1, [⟨1, 3, xb⟩]⟩ 0 = (⟨2, [⟨1, 3, xb⟩, ⟨2, 3, xb⟩]⟩, 2, 0) := by rfl
theorem sh3 : takeF ⟨2, [⟨1, 3, xb⟩, ⟨2, 3, xb⟩]⟩ 1 = (⟨2, [⟨1, 3, xb⟩]⟩, ⟨2, 3, xb⟩, 0) := by rfl
theorem sh4 : takeF ⟨2, [⟨1, 3, xb⟩]⟩ 1 = (⟨2, [⟨1, 3, xb⟩]⟩, z35, 2) := by rfl
set_option maxRecDepth 100000 in
set_option maxHeartbeats 4000000 in
theorem shown.is (w : World) : Calls Try.prog 10 #[] w fun e w' => e = .returned (.bool true) ∧ Below w.heap.size w w' := by
  go_enter Try.func10, Try.ntmps10
  go_wp2_with (fail)
  refine (New.is _).mono ?_
  rintro e w1 ⟨rfl, hs1, hb1⟩
  obtain ⟨g, hg⟩ : ∃ g, w.heap.size = g := ⟨_, rfl⟩
  have hgw : w.heap.size ≤ g := by omega
  have hn1 := hb1.size
  rw [hg] at hs1 ⊢
  go_wp2_with (fail)
  refine (Send.is g _ 3 xb _ hs1 (by decide)).mono ?_
  rw [sh1]
  rintro e w2 ⟨rfl, hs2, hg2⟩
  go_wp2_with (fail)
  refine (Copy.is g _ 0 _ hs2 (by decide)).mono ?_
  rw [sh2]
  rintro e w3 ⟨rfl, hs3, hg3⟩
  go_wp2_with (fail)
  refine (Take.is g _ 1 _ hs3 (by decide)).mono ?_
  rw [sh3]
  rintro e w4 ⟨rfl, hs4, hg4⟩
  unfold noteV
  go_wp2_with (fail)
  refine (Take.is g _ 1 _ (hs4.below ((Below.refl _ w4).alloc (Nat.le_refl _) _)) (by decide)).mono ?_
  rw [sh4]
  rintro e w5 ⟨rfl, hs5, hg5⟩
  unfold noteV z35
  have l4 := hs4.lt
  have y5 : Blk w5 w4.heap.size 35 #[.int .u32 2, .int .i64 3, .string xb] := (Blk.new w4 35 _).kept hg5 (fun e => by cases e; omega)
  have y6 := y5.alloc (.cells #[.int .u32 0, .int .i64 0, .string ⟨#[]⟩] 35)
  have c0 : (w5.alloc (.cells #[.int .u32 0, .int .i64 0, .string ⟨#[]⟩] 35)).cell? ⟨w4.heap.size, 0, none⟩ = some (.int .u32 2) := y6.cell 0
  have c1 : (w5.alloc (.cells #[.int .u32 0, .int .i64 0, .string ⟨#[]⟩] 35)).cell? ⟨w4.heap.size, 1, none⟩ = some (.int .i64 3) := y6.cell 1
  have c2 : (w5.alloc (.cells #[.int .u32 0, .int .i64 0, .string ⟨#[]⟩] 35)).cell? ⟨w4.heap.size, 2, none⟩ = some (.string xb) := y6.cell 2
  have hb5 : Below w.heap.size w w5 := by
    have hr : ∀ b, (some g : Option Nat) = some b → w.heap.size ≤ b := fun b e => by cases e; exact hgw
    have k2 := below_grown' hb1 hn1 hg2 hr
    have k3 := below_grown' k2 k2.size hg3 hr
    have k4 := below_grown' k3 k3.size hg4 hr
    exact below_grown' (k4.alloc k4.size _) (k4.alloc k4.size _).size hg5 hr
  have hb6 : Below w.heap.size w (w5.alloc (.cells #[.int .u32 0, .int .i64 0, .string ⟨#[]⟩] 35)) := hb5.alloc hb5.size _
  unfold xb at c2
  go_wp2
  go_ret
  exact ⟨rfl, hb6⟩
end Go.Proofs.Ythmeakkpmielmaa.G
