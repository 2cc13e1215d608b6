/- What a node keeps: words for the laws' loops. -/
import Derived.Test.YtmafolojopjenaaStoF
namespace Go.Proofs.Ytmafolojopjenaa.G
open Go.RowKit Go.Shelf Go.Proofs.YtmafolojopjenaaW.PrintWords Go.Proofs.YtmafolojopjenaaW.PrintMore Go.Proofs.Ytmafolojopjenaa.Cr Go.Proofs.Ytmafolojopjenaa.Jo Go.Proofs.Ytmafolojopjenaa.P
set_option linter.unusedVariables false
set_option linter.unusedSimpArgs false
attribute [local go_sem] Oper.semAt_some

/-- A row of texts of the call's own, beside a store. -/
def Row (W : World) (base : Nat) (v : Value) (l : List ByteArray) : Prop := Kd.R Kd.string 9 W base (fun _ => True) v l
theorem Row.over {W W' : World} {base g : Nat} {v : Value} {l : List ByteArray} {s : St} (h : Row W base v l) (hs : StS W g s) (hg : W.grownBy W' (some g)) : Row W' base v l :=
  Kd.R_mono (Kd.R_grown (Kd.R_types h hs (by decide)) hg (fun k hk e => hk.2 (Option.some.inj e))) (fun _ _ => trivial)
theorem Row.below {W W' : World} {base : Nat} {v : Value} {l : List ByteArray} (h : Row W base v l) (hb : Below W.heap.size W W') : Row W' base v l := Kd.R_below h hb
theorem Row.nil (W : World) (base : Nat) : Row W base (.slice none 0 0) [] := Kd.R_nil _ _ _ _ _
theorem StS.over {W W' : World} {base g : Nat} {v : Value} {l : List ByteArray} {s : St} (hs : StS W g s) (h : Row W base v l) (hg : W.grownBy W' v.ownBlock) : StS W' g s :=
  Blk.kept hs hg (Kd.R_ne h hs (by decide))
theorem Row.append {W : World} {base : Nat} {v : Value} {l : List ByteArray} (h : Row W base v l) (hl : l.length ≤ 1000000000) (hb : base ≤ W.heap.size) (x : ByteArray) :
    ∃ v' W', (∀ ty, (Builtin.append_ #[22, 22] ty #[v, .slice (some ⟨W.heap.size, 0, none⟩) 1 1]).run Try.prog (W.alloc (.cells #[.string x] 9)) = .ok v' W') ∧ Row W' base v' (l ++ [x]) ∧ (W.alloc (.cells #[.string x] 9)).grownBy W' v.ownBlock := by
  obtain ⟨v', W', hr, hR, hg⟩ := append_own_R (P := Try.prog) (d := Kd.string) (W := W.alloc (.cells #[.string x] 9)) 22 22 9 _ 16 und_strs info_str rfl (by decide) plain_str (Kd.R_alloc h _) (rowOne W x) (fun e => by cases e) (by simp; omega) (by omega) (by simp; omega)
  exact ⟨v', W', fun ty => hr, hR, hg⟩
/-- The data that a law makes of a text. -/
def cut100 (s : ByteArray) : ByteArray := mk (s.data.toList.take 100)
theorem cut100_size (s : ByteArray) : (s.data.toList.take 100).length ≤ 100 := List.length_take_le _ _
theorem slice_100 (s : ByteArray) (w : World) : (Instr.slice 9 (.string s) none (some (.int .i64 (mn (s.size : Int) 100))) none).run Try.prog w = .ok (.string (cut100 s)) w := by
  have h0 : 0 ≤ mn (s.size : Int) 100 := by unfold mn; split <;> omega
  have h1 : mn (s.size : Int) 100 ≤ (s.size : Int) := by unfold mn; split <;> omega
  rw [slice_to s _ h0 h1 w]
  congr 2
  rw [Pure.mn_lit _ _ (by decide), Int.toNat_natCast, show (100 : Int).toNat = 100 from rfl, Pure.extract_cut]
  rfl
/-- The first hundred bytes, as the walk spells them. -/
theorem first100 (s : ByteArray) : ∃ j : Int, (if (100 : Int) < (s.size : Int) then (100 : Int) else (s.size : Int)) = j ∧ (∀ w, (Instr.slice 9 (.string s) none (some (.int .i64 j)) none).run Try.prog w = .ok (.string (cut100 s)) w) :=
  ⟨_, rfl, fun w => slice_100 s w⟩
def upto (l : List ByteArray) (i : Nat) : List Jo.Bs := (l.take i).map fun s => s.data.toList.take 100
theorem upto_small (l : List ByteArray) (i : Nat) : ∀ d ∈ upto l i, d.length ≤ 100 := by
  intro d hd
  obtain ⟨s, _, rfl⟩ := List.mem_map.1 hd
  exact List.length_take_le _ _
theorem upto_small' (l : List ByteArray) (i : Nat) : ∀ d ∈ upto l i, d.length ≤ 4096 := fun d hd => Nat.le_trans (upto_small l i d hd) (by decide)
theorem upto_length (l : List ByteArray) (i : Nat) : (upto l i).length ≤ i := by unfold upto; rw [List.length_map]; exact List.length_take_le _ _
theorem upto_size (l : List ByteArray) (i : Nat) (h : i ≤ 20) : (recsL (upto l i)).length ≤ 2180 := by
  have h1 := Pure.recs_short _ (upto_small l i)
  have h2 := upto_length l i
  omega
theorem upto_succ (l : List ByteArray) (i : Nat) (h : i < l.length) : upto l (i + 1) = upto l i ++ [l[i].data.toList.take 100] := Pure.datas_at l i h
/-- A store with these records. -/
def stOf (ds : List Jo.Bs) : St := ⟨⟨#[]⟩, mk (recsL ds), 0, false, false, 1048576⟩
theorem stOf_size (ds : List Jo.Bs) : (stOf ds).recs.size = (recsL ds).length := mk_size _
theorem stOf_ok (ds : List Jo.Bs) (h : (recsL ds).length ≤ 100000) : StOk (stOf ds) := ⟨by rw [stOf_size]; show ((0 : Nat) : Int) + _ ≤ 1048576; omega, Int.le_refl _, fun h => by cases h⟩
theorem write_of (ds : List Jo.Bs) (d : Jo.Bs) (h : (recsL ds).length ≤ 100000) (hd : d.length ≤ 4096) : writeS (stOf ds) (mk d) = (stOf (ds ++ [d]), 0) := by
  rw [write_ok (stOf ds) d (recsL ds) rfl rfl rfl hd (by show ((0 : Nat) : Int) + _ ≤ 1048576; omega)]
  unfold stOf
  rw [recsL_append, recsL_one]
end Go.Proofs.Ytmafolojopjenaa.G
