/- Records: what joined tells; the contracts in the form that the printed texts call. -/
import Derived.Test.YtmafolojopjenaaJouD
import Derived.Test.YtmafolojopjenaaShelf
namespace Go.Proofs.Ytmafolojopjenaa.G
open Go.RowKit Go.Shelf Go.Proofs.YtmafolojopjenaaW.PrintWords Go.Proofs.Ytmafolojopjenaa.Cr Go.Proofs.Ytmafolojopjenaa.Jo
attribute [local go_sem] Oper.semAt_some

def joinS (l : List ByteArray) : ByteArray := mk (l.flatMap fun s => s.data.toList)
theorem join_nil (l : List (List UInt8)) : Lib.join l [] = l.flatten := by
  match l with
  | [] => rfl
  | x :: l => rw [Lib.join_cons]; simp [Lib.joinTail]
theorem joined.below (A : Option Addr) (c : Nat) (l : List ByteArray) (w : World) (hC : Kd.C Kd.string w A l.length l) (hc : l.length ≤ c) (hl : (joinS l).size ≤ 140737488351232) (hn : l.length ≤ 140737488351232) :
    Calls Try.prog 45 #[.slice A l.length c] w fun e w' => e = .returned (.string (joinS l)) ∧ Below w.heap.size w w' := by
  match l, hC, hc, hl, hn with
  | [], hC, hc, hl, hn =>
    have J := fun w => Try.strings_Join_none A c ⟨#[]⟩ w
    go_enter Try.func45, Try.ntmps45
    go_wp2_with (go_at_call 56; refine (J _).mono ?_; rintro e w1 ⟨rfl, rfl⟩)
    go_ret
    exact ⟨rfl, Below.refl _ _⟩
  | x :: l, hC, hc, hl, hn =>
    obtain ⟨h1, h2, h3⟩ := hC
    obtain ⟨ad, rfl, hcs⟩ := h3 (by simp)
    have hcell : ∀ (j : Nat) y, (x :: l)[j]? = some y → w.cell? (ad.add j) = some (.string y) := by
      intro j y hj
      obtain ⟨cs, _, hk, hu⟩ := hcs j y hj
      have := hu 0 (.string y) (by rw [show cs = [.string y] from hk]; rfl)
      simpa [show Kd.string.sz = 1 from rfl] using this
    have h0 := hcell 0 x rfl
    obtain ⟨B, o, sp⟩ := ad
    have hsp : sp = none := by
      cases sp with
      | none => rfl
      | some z =>
        simp only [Addr.add, if_true, World.cell?] at h0
        split at h0 <;> simp at h0
    subst hsp
    have hadd : ∀ j, (⟨B, o, none⟩ : Addr).add j = ⟨B, o + j, none⟩ := by
      intro j
      unfold Addr.add
      split
      · rename_i h; subst h; rfl
      · rfl
    have hcell' : ∀ (j : Nat) y, (x :: l)[j]? = some y → w.cell? ⟨B, o + j, none⟩ = some (.string y) := fun j y hj => by rw [← hadd]; exact hcell j y hj
    have hB : B < w.heap.size := World.block_lt_of_cell? w _ (hcell' 0 x rfl)
    have hj : Lib.join ((x :: l).map (·.data.toList)) (⟨#[]⟩ : ByteArray).data.toList = (joinS (x :: l)).data.toList := by
      show Lib.join _ [] = _
      rw [join_nil, joinS, data_mk, List.flatMap_def]
    have J := Try.strings_Join B o c (x :: l) ⟨#[]⟩ w hcell' hB (by omega) hc (by rw [hj, size_data]; omega)
    rw [hj] at J
    have hmk : (⟨(joinS (x :: l)).data.toList.toArray⟩ : ByteArray) = joinS (x :: l) := mk_data _
    rw [hmk] at J
    obtain ⟨m, hm⟩ : ∃ m, (x :: l).length = m := ⟨_, rfl⟩
    obtain ⟨R, hR⟩ : ∃ R, joinS (x :: l) = R := ⟨_, rfl⟩
    rw [hm, hR] at J
    rw [hm, hR]
    have JJ := Lib.hid J
    clear J hj hmk hm hR hcell' hcell h0 hcs h1 h2 h3 hl hc hn
    go_enter Try.func45, Try.ntmps45
    go_wp2_with (go_at_call 56; refine JJ.out.mono ?_; rintro e w1 ⟨rfl, hb⟩)
    go_ret
    exact ⟨rfl, hb⟩
def journal_joined.f (l0 : List ByteArray) : Option ByteArray := if (joinS l0).size ≤ 140737488351232 ∧ l0.length ≤ 140737488351232 then some (joinS l0) else none
theorem journal_joined.calls (A0 : Option Addr) (c0 : Nat) (l0 : List ByteArray) (r : ByteArray) (w : World) (hr0 : Kd.C Kd.string w A0 l0.length l0) (hc0 : l0.length ≤ c0) (h : journal_joined.f l0 = some r) :
    Calls Try.prog 45 #[.slice A0 l0.length c0] w fun e w' => e = .returned (.string r) ∧ Below w.heap.size w w' := by
  unfold journal_joined.f at h
  split at h
  · rename_i hs
    obtain rfl := Option.some.inj h
    exact joined.below A0 c0 l0 w hr0 hc0 hs.1 hs.2
  · cases h
def journal_Read.f (a0 : ByteArray) : Option (List ByteArray × Int) := if a0.size ≤ 1000000000 then some (readS a0) else none
theorem journal_Read.calls (a0 : ByteArray) (r1 : List ByteArray) (r2 : Int) (w : World) (h : journal_Read.f a0 = some (r1, r2)) :
    Calls Try.prog 25 #[.string a0] w fun e w' => ∃ v0_ : Value, e = .returned (.tuple #[v0_, .int .i64 r2]) ∧ Kd.R Kd.string 9 w' w.heap.size (fun _ => True) v0_ r1 ∧ Below w.heap.size w w' := by
  unfold journal_Read.f at h
  split at h
  · rename_i hs
    have e := Option.some.inj h
    have := Read.below a0 hs w
    rwa [e] at this
  · cases h
end Go.Proofs.Ytmafolojopjenaa.G
