/- The program's check sums, byte by byte: what Step, bytes, More tell, for every input, and that no memory that was there is touched. -/
import Derived.RangeFuncNested
import Derived.RangeFuncBound
import Derived.RangeFuncCalls
import Derived.RangeFuncLeaves
import Derived.Shelf.Abstract
import Derived.Shelf.RegionOpen
import Derived.WalkKit
import Derived.OwnWalkIn
import Derived.TacticsInMore
import Derived.LoopNIn
import Derived.LoopIn
import Derived.Handy
import Derived.Lib.Hide
import Derived.Lib.ConvBytes
import Derived.Test.YtmafolojopjenaaProg
import Derived.Test.YtmafolojopjenaaWWords
import Derived.Test.YtmafolojopjenaaCrcA
import Derived.Test.YtmafolojopjenaaLib
namespace Go.Proofs.Ytmafolojopjenaa.G
open Go.RowKit Go.Shelf Go.Proofs.YtmafolojopjenaaW.PrintWords Go.Proofs.Ytmafolojopjenaa.Cr
attribute [local go_sem] Oper.semAt_some
theorem unary_xor_u32 (n : Int) : Op.unary .xor (.int .u32 n) = pure (.int .u32 (Go.bits .xor .u32 4294967295 n)) := rfl
attribute [local go_sem high] unary_xor_u32

/-! ### crc.Step -/
def stepS (a0 a1 : Int) : Int := ofB (stepB32 (toB a0) (toB (a1 % 4294967296)))
def crc_Step.f (a0 a1 : Int) : Option Int := some (stepS a0 a1)
theorem val_u32 {a b : Int} (h : a = b) : Value.int .u32 a = .int .u32 b := by rw [h]
theorem ret_u32 {a b : Int} (h : a = b) : Ending.returned (.int .u32 a) = .returned (.int .u32 b) := by rw [h]
set_option maxHeartbeats 1000000 in
theorem crc_Step.same (a0 a1 : Int) (w : World) :
    Calls Try.prog 69 #[.int .u32 a0, .int .u8 a1] w fun e w' => e = .returned (.int .u32 (stepS a0 a1)) ∧ w = w' := by
  go_enter Try.func69, Try.ntmps69
  go_wp2
  go_loop [0, 9] (fun v i => ∃ k : Nat, k ≤ 8 ∧ i = .int .i64 k ∧ v = .int .u32 (ofB (iter g k (toB a0 ^^^ toB (a1 % 4294967296))))) (fun _ i => 8 - (intOf i).toNat)
  case atStart => exact ⟨0, by omega, rfl, val_u32 (bits_xor_toB _ _)⟩
  case round =>
    obtain ⟨k, hk, rfl, rfl⟩ := hrel
    by_cases hlt : k < 8
    · go_wp2
      go_round
      case rel => exact ⟨k + 1, by omega, by go_num, val_u32 (by rw [iter_succ']; exact g_prog _)⟩
      case measure => simp [intOf]; omega
    · obtain rfl : k = 8 := by omega
      go_wp2
      go_ret
      exact ⟨rfl, rfl⟩

theorem crc_Step.calls (a0 a1 r : Int) (w : World) (h : crc_Step.f a0 a1 = some r) :
    Calls Try.prog 69 #[.int .u32 a0, .int .u8 a1] w fun e w' => e = .returned (.int .u32 r) ∧ Drawn0 w w' := by
  obtain rfl := Option.some.inj h
  exact (crc_Step.same a0 a1 w).mono fun e w' ⟨he, hw⟩ => ⟨he, hw ▸ Drawn0.refl w⟩

/-! ### crc.bytes -/
theorem take_snoc (s : ByteArray) (k : Nat) (h : k < s.size) : s.data.toList.take (k + 1) = s.data.toList.take k ++ [s[k]] := by
  rw [List.take_succ_eq_append_getElem (by simpa using h)]; rfl
set_option maxRecDepth 100000 in
set_option maxHeartbeats 2000000 in
theorem bytes1_in (F : Fence) (n : Nat) (hF : F.fn 74) (hro : F.round = none) (hn : 1 ≤ n) (l Bs : Nat) (S : Nat → Prop) (hS : S Bs) (s : ByteArray) (hs : s.size ≤ 9223372036854775807) (J Jx : List UInt8 → World → Prop)
    (hY : ∀ pre x W, J pre W → pre.length < s.size → YieldAt F (n - 1) Try.prog l #[.int .u8 (x.toNat : Int)] W fun e W' =>
      (e = .returned (.bool true) ∧ J (pre ++ [x]) W' ∧ Keeps S W W') ∨ (e = .returned (.bool false) ∧ Jx (pre ++ [x]) W'))
    (W : World) (hBs : W.cell? ⟨Bs, 0, none⟩ = some (.string s)) (h0 : J [] W) :
    CallsIn F n Try.prog 74 #[.func (.yield l) #[] #[], .pointer (some ⟨Bs, 0, none⟩)] W fun e W' => (∃ v, e = .returned v) ∧
      ((∃ ys, ys = s.data.toList ∧ J ys W') ∨ (∃ pre, pre <+: s.data.toList ∧ Jx pre W')) := by
  refine callsIn_of_wp Try.func74 rfl hF ?_ hro
  simp only [Try.ntmps74, List.size_toArray, List.length_cons, List.length_nil, Nat.reduceAdd, Nat.reduceSub, Array.replicate_succ, Array.replicate_zero, List.push_toArray, List.append_toArray, List.nil_append, List.cons_append]
  gi_wp2
  gi_loopw [6] (fun i wr => ∃ k : Nat, k ≤ s.size ∧ i = .int .i64 k ∧ J (s.data.toList.take k) wr ∧ Keeps S W wr) (fun i _ => s.size - (intOf i).toNat)
  case atStart => exact ⟨0, Nat.zero_le _, rfl, h0, Keeps.refl _ _⟩
  case round =>
    obtain ⟨k, hk, rfl, hJs, hnx⟩ := hrel
    have hcx : wr.cell? ⟨Bs, 0, none⟩ = some (.string s) := (hnx.cell (p := ⟨Bs, 0, none⟩) hS).trans hBs
    by_cases hlt : k < s.size
    · obtain ⟨fn, tmps, assign, body, hy, hR⟩ := hY _ s[k] wr hJs (by simp; omega)
      have HS := Lib.hid (take_snoc s k hlt)
      gi_wp2
      refine hR.mono ?_
      rintro e W3 (⟨rfl, hJ3, hk3⟩ | ⟨rfl, hJx3⟩)
      · gi_wp2
        go_roundw
        case rel => exact ⟨k + 1, by omega, by simp, by rw [HS.out]; exact hJ3, hnx.trans hk3⟩
        case measure => simp [intOf]; omega
      · gi_wp2
        refine bodyPost_ret (results_none rfl _ _ _) rfl ?_
        exact ⟨⟨_, rfl⟩, .inr ⟨_, by rw [← HS.out]; exact List.take_prefix _ _, hJx3⟩⟩
    · obtain rfl : k = s.size := by omega
      gi_wp2
      go_end0
      exact ⟨⟨_, rfl⟩, .inl ⟨_, by rw [List.take_of_length_le (by simp)], hJs⟩⟩

set_option maxHeartbeats 1000000 in
theorem bytes_in (F : Fence) (n : Nat) (hF : F.fn 68) (hro : F.round = none) (s : ByteArray) (w : World) :
    CallsIn F n Try.prog 68 #[.string s] w fun e w' => e = .returned (.func (.func 74) #[] #[.pointer (some ⟨w.heap.size, 0, none⟩)]) ∧ w' = w.alloc (.cells #[.string s] 9) := by
  refine callsIn_of_wp Try.func68 rfl hF ?_ hro
  simp only [Try.ntmps68, List.size_toArray, List.length_cons, List.length_nil, Nat.reduceAdd, Nat.reduceSub, Array.replicate_succ, Array.replicate_zero, List.push_toArray, List.append_toArray, List.nil_append, List.cons_append]
  gi_wp2
  go_ret
  exact ⟨rfl, rfl⟩

theorem bytes_stops (F : Fence) (n : Nat) (hF : F.fn 74) (hro : F.round = none) (hn : 1 ≤ n) (Bs : Nat) (S : Nat → Prop) (hS : S Bs) (s : ByteArray) (hs : s.size ≤ 9223372036854775807) (w : World) (hBs : Bs < w.heap.size)
    (hc : w.cell? ⟨Bs, 0, none⟩ = some (.string s)) :
    SeqStopsK F n Try.prog 74 #[.pointer (some ⟨Bs, 0, none⟩)] (fun x : UInt8 => #[Value.int .u8 (x.toNat : Int)]) (Keeps S) (fun ys => ys = s.data.toList) (fun pre => pre <+: s.data.toList) s.size w := fun l J Jx W hW _ _ hY h0 =>
  bytes1_in F n hF hro hn l Bs S hS s hs J Jx hY W ((hW.cell (p := ⟨Bs, 0, none⟩) hBs).trans hc) h0

/-! ### crc.More -/
def moreS (a0 : Int) (s : ByteArray) : Int := ofB (moreB (toB a0) s.data.toList)
theorem stepS_steps (n : BitVec 32) (x : UInt8) : stepS (ofB n) (x.toNat : Int) = ofB (stepB n x) := by
  unfold stepS stepB
  rw [toB_ofB, Int.emod_eq_of_lt (by omega) (by have := x.toNat_lt; omega), toB_byte]
set_option maxRecDepth 100000 in
set_option maxHeartbeats 4000000 in
theorem crc_More.below (a0 : Int) (s : ByteArray) (hs : s.size ≤ 9223372036854775807) (w : World) :
    Calls Try.prog 62 #[.int .u32 a0, .string s] w fun e w' => e = .returned (.int .u32 (moreS a0 s)) ∧ Below w.heap.size w w' := by
  refine (callsIn_wide (n := 6)).1 ?_
  have h1 : 1 ≤ 6 := by omega
  refine callsIn_of_wp_marks Try.func62 rfl trivial ?_ rfl
  simp only [Try.ntmps62, List.size_toArray, List.length_cons, List.length_nil, Nat.reduceAdd, Nat.reduceSub, Array.replicate_succ, Array.replicate_zero, List.push_toArray, List.append_toArray, List.nil_append, List.cons_append]
  gi_wp2_with (refine ⟨trivial, ?_⟩; gi_at_call 68; refine (bytes_in Fence.wide (6 - 1) trivial rfl _ _).mono ?_; rintro e w' ⟨rfl, rfl⟩)
  have hs0 := (Boxed.new w 71 (.int .u32 (Go.bits .xor .u32 4294967295 a0))).alloc (.cells #[.string s] 9)
  have hb0 := Boxed.new (w.alloc (.cells #[.int .u32 (Go.bits .xor .u32 4294967295 a0)] 71)) 9 (.string s)
  rw [World.size_alloc] at hb0
  have hB0 : Below w.heap.size w ((w.alloc (.cells #[.int .u32 (Go.bits .xor .u32 4294967295 a0)] 71)).alloc (.cells #[.string s] 9)) := ((Below.refl _ w).alloc (Nat.le_refl _) _).alloc (by simp) _
  refine wpIn_rangeFunc_ownF rfl h1 (gf := 74) (lb := #[.pointer (some ⟨w.heap.size + 1, 0, none⟩)]) rfl trivial (enters_of Try.func74 (by kernel_rfl) rfl)
    (bytes_stops Fence.wide (6 - 1) trivial rfl (by omega) (w.heap.size + 1) (· = w.heap.size + 1) rfl s hs _ (by simp) hb0.cell) Keeps.trans (keeps_b (by rintro k rfl; simp)) (Below.refl _ _) (fun _ => rfl)
    (fun pre W => Boxed W w.heap.size 71 (.int .u32 (ofB (stepsB (~~~ toB a0) pre))) ∧ Below w.heap.size w W)
    (fun _ _ _ => False)
    (OwnFrom.and (Own.from (boxed_own _ _ _) _) (ownFrom_below (Nat.le_refl _) (by simp; omega)))
    (fun _ _ _ _ _ hs _ _ => hs)
    ⟨by rw [show stepsB (~~~ toB a0) [] = ~~~ toB a0 from rfl, ← bits_xor_all]; exact hs0, hB0⟩
    (fun x => { tmps := #[.int .u32 a0, .string s, undef, undef, .int .u32 0, .pointer (some ⟨w.heap.size, 0, none⟩), .int .u8 (x.toNat : Int), .int .u32 a0, .int .u32 (Go.bits .xor .u32 4294967295 a0), .string s, .func (.func 74) #[] #[.pointer (some ⟨w.heap.size + 1, 0, none⟩)], .int .u8 (x.toNat : Int), undef, undef, undef, undef, undef], defers := [] }) ?assign ?body ?done ?stop
  case assign =>
    intro l x W K hK
    gi_wp2
    exact hK
  case body =>
    rintro l pre x W ⟨hc, hB⟩ _
    have hcc := hc.cell
    have hcf := hc.frozen
    gi_wp2_with (refine ⟨trivial, ?_⟩; gi_at_call 69; refine (CallsIn.inRound l (callsIn_wide.2 (crc_Step.same _ _ _))).mono ?_; rintro e w' ⟨rfl, rfl⟩)
    refine ⟨KeepsOthers.setCell _ _ _, (Keeps.refl _ W).setCell (p := ⟨w.heap.size, 0, none⟩) (by simp) _, ?_, hB.setCell (p := ⟨w.heap.size, 0, none⟩) (Nat.le_refl _) _⟩
    rw [stepsB_snoc, ← stepS_steps]
    exact hc.set _
  case done =>
    rintro D ys W hD rfl ⟨hc, hB⟩ hK
    have hcc := hc.cell
    gi_wp2
    refine ⟨by simp, .inl ⟨_, _, rfl, run_takeDeferred hK, ?_⟩⟩
    refine ⟨_, results_tmp rfl _ _ _, ?_⟩
    refine ⟨ret_u32 ?_, hB.trans (belowK_b (w := w) (Nat.le_refl _) W D _ _ (by simp at hD; omega) hK rfl rfl)⟩
    rw [bits_xor_all, toB_ofB]
    rfl
  case stop =>
    rintro D c pre W _ _ h _
    exact h.elim
end Go.Proofs.Ytmafolojopjenaa.G
