-- Printed by a program of this session (the kit's print, with contracts of this session's beside it).
import Derived.Test.YtnllilpbgenjbaaPx0
import Derived.Test.YtnllilpbgenjbaaPx2
import Derived.Test.YtnllilpbgenjbaaPx3
import Derived.Test.YtnllilpbgenjbaaBalG
namespace Go.Proofs.Ytnllilpbgenjbaa.P
open Go.RowKit Go.Proofs.YtnllilpbgenjbaaW.PrintWords Go.Proofs.YtnllilpbgenjbaaW.PrintLast Go.Proofs.YtnllilpbgenjbaaW.PrintMore
attribute [local go_sem] max2_int min2_int max_two min_two max_three min_three max_four min_four   -- for this text's walks alone
set_option linter.unusedVariables false
set_option linter.unusedSimpArgs false

/-! ### rostrumlaw08_BallotMost: function 5 -/
mutual
def rostrumlaw08_BallotMost.j0 : Nat → List (S24) → ByteArray → Bool → Bool → Int → Int → ByteArray → Option (Bool)
  | 0, _, _, _, _, _, _, _ => none
  | k + 1, x0, x1, x7, x37, x194000, x194001, x194002 => if x37 = true then (some x7) else (if 0 ≤ 8796093022208 then ((some (List.replicate 0 z24 : List (S24))).bind fun y194 => (if y194.length + x0.length < 4398046511104 then (rostrumlaw08_BallotMost.l0 k x0 x1 x7 (y194 ++ x0) 0 x194000 x194001 x194002) else (none))) else (none))
def rostrumlaw08_BallotMost.l0 : Nat → List (S24) → ByteArray → Bool → List (S24) → Int → Int → Int → ByteArray → Option (Bool)
  | 0, _, _, _, _, _, _, _, _ => none
  | k + 1, x0, x1, x7, x10, x11, x194000, x194001, x194002 => if (wrap64 (2 * x11)) ≤ (x0.length : Int) then (if 0 ≤ x11 then (if x11 < (x10.length : Int) then (rostrumlaw08_BallotMost.l0 k x0 x1 x7 (x10.set (x11 : Int).toNat (⟨x194000, x194001, x194002⟩ : S24)) (wrap64 (x11 + 1)) x194000 x194001 x194002) else (none)) else (none)) else ((G.ballot_Decided.f x10).bind fun bt201 => (if x7 = true then (if bt201.2.2 = 0 then (if bt201.2.1 = true then (some (bt201.1.toList == x1.toList)) else (some false)) else (some true)) else (some false)))
end
def rostrumlaw08_BallotMost.f (k : Nat) (l0 : List (S24)) (a1 : ByteArray) (a2 : Int) : Option (Bool) := (rostrumlaw08_shown.f).bind fun t180 => (if 0 ≤ (mn (l0.length : Int) 16) then (if (mn (l0.length : Int) 16) ≤ (l0.length : Int) then ((rostrumlaw08_some.f k (l0.take ((mn (l0.length : Int) 16) : Int).toNat)).bind fun t185 => ((rostrumlaw08_cut.f a1).bind fun t188 => ((G.ballot_Cast.f 0 0 (⟨#[]⟩ : ByteArray) a2 t188).bind fun bt189 => (if bt189.2.2.2 = 0 then (rostrumlaw08_BallotMost.j0 k t185 t188 t180 ((t185.length : Int) == 0) bt189.1 bt189.2.1 bt189.2.2.1) else (rostrumlaw08_BallotMost.j0 k t185 t188 t180 true bt189.1 bt189.2.1 bt189.2.2.1))))) else (none)) else (none))
theorem rostrumlaw08_BallotMost.mono_l : ∀ k, (∀ y0 y1 y2 y3 y4 y5 y6, LeO (rostrumlaw08_BallotMost.j0 k y0 y1 y2 y3 y4 y5 y6) (rostrumlaw08_BallotMost.j0 (k + 1) y0 y1 y2 y3 y4 y5 y6)) ∧ (∀ y0 y1 y2 y3 y4 y5 y6 y7, LeO (rostrumlaw08_BallotMost.l0 k y0 y1 y2 y3 y4 y5 y6 y7) (rostrumlaw08_BallotMost.l0 (k + 1) y0 y1 y2 y3 y4 y5 y6 y7))
  | 0 => ⟨fun _ _ _ _ _ _ _ r h => by simp [rostrumlaw08_BallotMost.j0] at h, fun _ _ _ _ _ _ _ _ r h => by simp [rostrumlaw08_BallotMost.l0] at h⟩
  | k + 1 => by
    obtain ⟨ih0, ih1⟩ := rostrumlaw08_BallotMost.mono_l k
    refine ⟨?_, ?_⟩
    · intro y0 y1 y2 y3 y4 y5 y6
      unfold rostrumlaw08_BallotMost.j0
      repeat' first
      | (with_reducible exact ih0 _ _ _ _ _ _ _)
      | (with_reducible exact ih1 _ _ _ _ _ _ _ _)
      | (with_reducible exact rostrumlaw08_some.mono _ _)
      | (with_reducible exact LeO.refl _)
      | (with_reducible exact LeO.none _)
      | (with_reducible refine LeO.ite ?_ ?_)
      | (with_reducible refine LeO.bind ?_ (fun _ => ?_))
      | exact ih0 _ _ _ _ _ _ _
      | exact ih1 _ _ _ _ _ _ _ _
      | exact rostrumlaw08_some.mono _ _
      | exact LeO.none _
      | refine LeO.ite ?_ ?_
      | refine LeO.bind ?_ (fun _ => ?_)
    · intro y0 y1 y2 y3 y4 y5 y6 y7
      unfold rostrumlaw08_BallotMost.l0
      repeat' first
      | (with_reducible exact ih0 _ _ _ _ _ _ _)
      | (with_reducible exact ih1 _ _ _ _ _ _ _ _)
      | (with_reducible exact rostrumlaw08_some.mono _ _)
      | (with_reducible exact LeO.refl _)
      | (with_reducible exact LeO.none _)
      | (with_reducible refine LeO.ite ?_ ?_)
      | (with_reducible refine LeO.bind ?_ (fun _ => ?_))
      | exact ih0 _ _ _ _ _ _ _
      | exact ih1 _ _ _ _ _ _ _ _
      | exact rostrumlaw08_some.mono _ _
      | exact LeO.none _
      | refine LeO.ite ?_ ?_
      | refine LeO.bind ?_ (fun _ => ?_)
theorem rostrumlaw08_BallotMost.mono : ∀ a0 a1 a2 k, LeO (rostrumlaw08_BallotMost.f k a0 a1 a2) (rostrumlaw08_BallotMost.f (k + 1) a0 a1 a2) := by
  intro a0 a1 a2 k
  obtain ⟨ih0, ih1⟩ := rostrumlaw08_BallotMost.mono_l k
  unfold rostrumlaw08_BallotMost.f
  repeat' first
      | (with_reducible exact ih0 _ _ _ _ _ _ _)
      | (with_reducible exact ih1 _ _ _ _ _ _ _ _)
      | (with_reducible exact rostrumlaw08_some.mono _ _)
      | (with_reducible exact LeO.refl _)
      | (with_reducible exact LeO.none _)
      | (with_reducible refine LeO.ite ?_ ?_)
      | (with_reducible refine LeO.bind ?_ (fun _ => ?_))
      | exact ih0 _ _ _ _ _ _ _
      | exact ih1 _ _ _ _ _ _ _ _
      | exact rostrumlaw08_some.mono _ _
      | exact LeO.none _
      | refine LeO.ite ?_ ?_
      | refine LeO.bind ?_ (fun _ => ?_)
set_option maxHeartbeats 8000000 in
set_option maxRecDepth 100000 in
theorem rostrumlaw08_BallotMost.calls (k : Nat) (A0 : Option Addr) (c0 : Nat) (l0 : List (S24)) (a1 : ByteArray) (a2 : Int) (r : Bool) (w : World) (hr0 : Kd.C k24 w A0 l0.length l0) (hc0 : l0.length ≤ c0) (h : rostrumlaw08_BallotMost.f k l0 a1 a2 = some r) :
    Calls Try.prog 5 #[.slice A0 l0.length c0, .string a1, .int .u64 a2] w fun e w' => e = .returned (.bool r) ∧ Below w.heap.size w w' := by
  have hu24 := Try.underlying24
  have HR0 := Aside0.mk hr0
  have HC0 := Aside0.mk hc0
  clear hr0 hc0
  have HB := Aside0.mk (Below.refl w.heap.size w)
  have H : ((rostrumlaw08_shown.f).bind fun t180 => (if 0 ≤ (mn (l0.length : Int) 16) then (if (mn (l0.length : Int) 16) ≤ (l0.length : Int) then ((rostrumlaw08_some.f k (l0.take ((mn (l0.length : Int) 16) : Int).toNat)).bind fun t185 => ((rostrumlaw08_cut.f a1).bind fun t188 => ((G.ballot_Cast.f 0 0 (⟨#[]⟩ : ByteArray) a2 t188).bind fun bt189 => (if bt189.2.2.2 = 0 then (rostrumlaw08_BallotMost.j0 k t185 t188 t180 ((t185.length : Int) == 0) bt189.1 bt189.2.1 bt189.2.2.1) else (rostrumlaw08_BallotMost.j0 k t185 t188 t180 true bt189.1 bt189.2.1 bt189.2.2.1))))) else (none)) else (none))) = some r := h
  clear h
  replace H := Option.bind_eq_some_iff.mp H
  obtain ⟨t180, A40, H⟩ := H
  replace H : (if 0 ≤ (mn (l0.length : Int) 16) then (if (mn (l0.length : Int) 16) ≤ (l0.length : Int) then ((rostrumlaw08_some.f k (l0.take ((mn (l0.length : Int) 16) : Int).toNat)).bind fun t185 => ((rostrumlaw08_cut.f a1).bind fun t188 => ((G.ballot_Cast.f 0 0 (⟨#[]⟩ : ByteArray) a2 t188).bind fun bt189 => (if bt189.2.2.2 = 0 then (rostrumlaw08_BallotMost.j0 k t185 t188 t180 ((t185.length : Int) == 0) bt189.1 bt189.2.1 bt189.2.2.1) else (rostrumlaw08_BallotMost.j0 k t185 t188 t180 true bt189.1 bt189.2.1 bt189.2.2.1))))) else (none)) else (none)) = some r := H
  have A4 := Aside0.mk A40
  clear A40
  obtain ⟨ji5, hji5⟩ : ∃ j_ : Int, (mn (l0.length : Int) 16) = j_ := ⟨_, rfl⟩
  replace H : (if 0 ≤ (ji5) then (if (ji5) ≤ (l0.length : Int) then ((rostrumlaw08_some.f k (l0.take ((ji5) : Int).toNat)).bind fun t185 => ((rostrumlaw08_cut.f a1).bind fun t188 => ((G.ballot_Cast.f 0 0 (⟨#[]⟩ : ByteArray) a2 t188).bind fun bt189 => (if bt189.2.2.2 = 0 then (rostrumlaw08_BallotMost.j0 k t185 t188 t180 ((t185.length : Int) == 0) bt189.1 bt189.2.1 bt189.2.2.1) else (rostrumlaw08_BallotMost.j0 k t185 t188 t180 true bt189.1 bt189.2.1 bt189.2.2.1))))) else (none)) else (none)) = some r := by first | (rw [hji5] at H; exact H) | (simp only [hji5] at H ⊢; exact H)
  (try rw [hji5] at A4)
  (try (have hji5h : ji5 ≤ 16 := by (rw [← hji5]; unfold mn; (repeat' split) <;> omega)))
  (try (have hji5g : ji5 ≤ 64 := by omega))
  (try (have hji5l : 0 ≤ ji5 := by (rw [← hji5]; unfold mn; (repeat' split) <;> omega)))
  (try (have hji5m : 0 ≤ ji5 := by omega))
  have hji5_ : (if 16 < (l0.length : Int) then 16 else (l0.length : Int)) = ji5 := hji5
  by_cases c6 : 0 ≤ (ji5)
  · rw [if_pos c6] at H
    have c6b0 := eq_true c6
    have c6b1 : decide (0 ≤ (ji5)) = true := decide_eq_true c6
    clear c6
    by_cases c7 : (ji5) ≤ (l0.length : Int)
    · rw [if_pos c7] at H
      have c7b0 := eq_true c7
      have c7b1 : decide ((ji5) ≤ (l0.length : Int)) = true := decide_eq_true c7
      clear c7
      obtain ⟨y181, hy181⟩ : ∃ y_ : List (S24), y_ = (l0.take ((ji5) : Int).toNat) := ⟨_, rfl⟩
      replace H : ((rostrumlaw08_some.f k y181).bind fun t185 => ((rostrumlaw08_cut.f a1).bind fun t188 => ((G.ballot_Cast.f 0 0 (⟨#[]⟩ : ByteArray) a2 t188).bind fun bt189 => (if bt189.2.2.2 = 0 then (rostrumlaw08_BallotMost.j0 k t185 t188 t180 ((t185.length : Int) == 0) bt189.1 bt189.2.1 bt189.2.2.1) else (rostrumlaw08_BallotMost.j0 k t185 t188 t180 true bt189.1 bt189.2.1 bt189.2.2.1))))) = some r := by first | (rw [hy181]; with_reducible exact H) | (have H2_ := (Option.bind_some _ _).symm.trans H; rw [hy181]; with_reducible exact H2_) | (have H2_ := (Option.bind_some _ _).symm.trans H; with_reducible exact H2_) | with_reducible exact H | (rw [hy181]; exact H) | exact H
      have Ny181 := Aside0.mk hy181
      clear hy181
      replace H := Option.bind_eq_some_iff.mp H
      obtain ⟨t185, A80, H⟩ := H
      replace H : ((rostrumlaw08_cut.f a1).bind fun t188 => ((G.ballot_Cast.f 0 0 (⟨#[]⟩ : ByteArray) a2 t188).bind fun bt189 => (if bt189.2.2.2 = 0 then (rostrumlaw08_BallotMost.j0 k t185 t188 t180 ((t185.length : Int) == 0) bt189.1 bt189.2.1 bt189.2.2.1) else (rostrumlaw08_BallotMost.j0 k t185 t188 t180 true bt189.1 bt189.2.1 bt189.2.2.1)))) = some r := H
      have A8 := Aside0.mk A80
      clear A80
      replace H := Option.bind_eq_some_iff.mp H
      obtain ⟨t188, A90, H⟩ := H
      replace H : ((G.ballot_Cast.f 0 0 (⟨#[]⟩ : ByteArray) a2 t188).bind fun bt189 => (if bt189.2.2.2 = 0 then (rostrumlaw08_BallotMost.j0 k t185 t188 t180 ((t185.length : Int) == 0) bt189.1 bt189.2.1 bt189.2.2.1) else (rostrumlaw08_BallotMost.j0 k t185 t188 t180 true bt189.1 bt189.2.1 bt189.2.2.1))) = some r := H
      have A9 := Aside0.mk A90
      clear A90
      replace H := Option.bind_eq_some_iff.mp H
      obtain ⟨⟨t189, t190, t191, t192⟩, A100, H⟩ := H
      replace H : (if t192 = 0 then (rostrumlaw08_BallotMost.j0 k t185 t188 t180 ((t185.length : Int) == 0) t189 t190 t191) else (rostrumlaw08_BallotMost.j0 k t185 t188 t180 true t189 t190 t191)) = some r := H
      have A10 := Aside0.mk A100
      clear A100
      have HC11 := Aside0.mk H
      clear H
      go_enter Try.func5, Try.ntmps5
      go_upto_region 5 with (first | ((with_reducible refine gate_callee (f := 10) rfl ?_); refine goesL_ (some 15) rfl rfl Try.func10 (by kernel_rfl) rfl #[] rfl (by (try simp only [List.map_toArray, List.map_cons, List.map_nil]); first | done | rfl | (simp only [List.length_drop, List.length_take]; rfl)) ?_; (with_reducible refine (rostrumlaw08_shown.calls  t180 _ A4.out).mono ?_); rintro e w12 ⟨rfl, hb⟩; refine ⟨_, rfl, ?_⟩; have n0_ := Aside0.mk (below_step (by repeat (first | (with_reducible first | exact HB.out | apply below_alloc | apply pw_below_drewN | apply below_drew1) | exact HB.out)) hb); clear HB; have HB := n0_; clear n0_; (try clear hb); (try clear hb2); (try clear hk); (try clear hi); have q13 : ((ji5) : Int) ≤ ((l0.length : Int) : Int) := of_decide_eq_true (by first | (with_reducible assumption) | assumption); obtain ⟨i013, hi013, _, hsz13, _⟩ := info_parts info24; have hroom13 : l0.length ≤ c0 := HC0.out; have hC13 : Kd.C k24 _ A0 l0.length l0 := HR0.out; have hcut13 := cut_to (P := Try.prog) 36 24 .i64 Try.underlying36 hi013 A0 l0.length c0 (ji5) (of_decide_eq_true (by first | (with_reducible assumption) | assumption)) q13 hroom13; have hr13 := Kd.C_take (m := ((ji5) : Int).toNat) hC13 (by omega); have hy13 : y181.length = ((ji5) : Int).toNat := (by rw [Ny181.out, List.length_take]; omega); rw [← Ny181.out] at hr13; rw [← hy13] at hcut13; have HR184 := Aside0.mk hr13; have HC184 := Aside0.mk (show y181.length ≤ c0 from by omega); clear hr13 hC13 hroom13 hi013 hsz13; have KY13 := Aside0.mk hy13; clear hy13; replace q13 := eq_true q13) | ((with_reducible refine gate_callee (f := 18) rfl ?_); refine goesL_ (some 21) rfl rfl Try.func18 (by kernel_rfl) rfl #[.slice A0 y181.length c0] rfl (by (try simp only [List.map_toArray, List.map_cons, List.map_nil]); first | done | rfl | (simp only [List.length_drop, List.length_take]; rfl)) ?_; (with_reducible refine (rostrumlaw08_some.calls k _ _ y181 t185 _ ?side1 ?side2 A8.out).mono ?_); (case side1 => repeat (first | exact (Kd.C_below HR184.out HB.out) | (with_reducible refine Kd.C_alloc ?_ _) | (with_reducible refine Kd.C_drewN ?_ _) | (with_reducible refine Kd.C_drew ?_))); (case side2 => exact HC184.out); rintro e w14 ⟨v186, rfl, ho0, hb⟩; refine ⟨_, rfl, ?_⟩; have n0_ := Aside0.mk (Kd.R_lower ho0 (below_size (by repeat (first | (with_reducible first | exact HB.out | apply below_alloc | apply pw_below_drewN | apply below_drew1) | exact HB.out)))); have n1_ := Aside0.mk (below_step (by repeat (first | (with_reducible first | exact HB.out | apply below_alloc | apply pw_below_drewN | apply below_drew1) | exact HB.out)) hb); clear HB; have HO187 := n0_; have HB := n1_; clear n0_ n1_; (try clear hb); (try clear hb2); (try clear hk); (try clear hi); (try clear ho0)) | ((with_reducible refine gate_callee (f := 11) rfl ?_); refine goesL_ (some 23) rfl rfl Try.func11 (by kernel_rfl) rfl #[.string a1] rfl (by (try simp only [List.map_toArray, List.map_cons, List.map_nil]); first | done | rfl | (simp only [List.length_drop, List.length_take]; rfl)) ?_; (with_reducible refine (rostrumlaw08_cut.calls a1 t188 _ A9.out).mono ?_); rintro e w15 ⟨rfl, hb⟩; refine ⟨_, rfl, ?_⟩; have n0_ := Aside0.mk (Kd.R_below (by (with_reducible repeat (first | apply Kd.R_alloc | apply Kd.R_drewN | apply Kd.R_drew)); exact HO187.out) hb); have n1_ := Aside0.mk (below_step (by repeat (first | (with_reducible first | exact HB.out | apply below_alloc | apply pw_below_drewN | apply below_drew1) | exact HB.out)) hb); clear HO187; clear HB; have HO187 := n0_; have HB := n1_; clear n0_ n1_; (try clear hb); (try clear hb2); (try clear hk); (try clear hi)) | ((with_reducible refine gate_callee (f := 14) rfl ?_); refine goesL_ (some 28) rfl rfl Try.func14 (by kernel_rfl) rfl #[.agg #[.int .u64 0, .int .u64 0, .string (⟨#[]⟩ : ByteArray)], .int .u64 a2, .string t188] rfl (by (try simp only [List.map_toArray, List.map_cons, List.map_nil]); first | done | rfl | (simp only [List.length_drop, List.length_take]; rfl)) ?_; (with_reducible refine (G.ballot_Cast.calls 0 0 (⟨#[]⟩ : ByteArray) a2 t188 t189 t190 t191 t192 _ A10.out).mono ?_); rintro e w16 ⟨rfl, hb⟩; refine ⟨_, rfl, ?_⟩; have n0_ := Aside0.mk (Kd.R_below (by (with_reducible repeat (first | apply Kd.R_alloc | apply Kd.R_drewN | apply Kd.R_drew)); exact HO187.out) hb); have n1_ := Aside0.mk (below_step (by repeat (first | (with_reducible first | exact HB.out | apply below_alloc | apply pw_below_drewN | apply below_drew1) | exact HB.out)) hb); clear HO187; clear HB; have HO187 := n0_; have HB := n1_; clear n0_ n1_; (try clear hb); (try clear hb2); (try clear hk); (try clear hi)) | ((with_reducible refine gate_dst (N := 8) rfl ?_); (try (refine gate_guard (by rfl) ?_; dsimp only)); refine box_event ?hg (N := 8) ?hd (cs := #[.int .u64 0, .int .u64 0, .string (⟨#[]⟩ : ByteArray)]) (t := 24) ?hr ?_; (case hd => rfl); (case hg => rfl); (case hr => first | (go_simp; done) | (go_simp; rfl)); intro gb193 hg w17 hbox hb; have n0_ := Aside0.mk (Kd.R_below (Kd.R_elderB (by (with_reducible repeat (first | apply Kd.R_alloc | apply Kd.R_drewN | apply Kd.R_drew)); exact HO187.out) gb193 (Nat.le_of_eq hg.symm)) hb); have n1_ := Aside0.mk (below_step (by repeat (first | (with_reducible first | exact HB.out | apply below_alloc | apply pw_below_drewN | apply below_drew1) | exact HB.out)) hb); have n2_ := Aside0.mk (hbox); have n3_ := Aside0.mk ((by rw [hg]; exact (below_size (by repeat (first | (with_reducible first | exact HB.out | apply below_alloc | apply pw_below_drewN | apply below_drew1) | exact HB.out))) : w.heap.size ≤ gb193)); have n4_ := Aside0.mk ((by rw [hg]; exact (below_size (by repeat (first | (with_reducible first | exact HB.out | apply below_alloc | apply pw_below_drewN | apply below_drew1) | exact HB.out))) : w.heap.size ≤ gb193)); clear HO187; clear HB; have HO187 := n0_; have HB := n1_; have BK193 := n2_; have GW193 := n3_; have GE193 := n4_; clear n0_ n1_ n2_ n3_ n4_; clear hb hbox hg; have hcz18_0 : w17.cell? ⟨gb193, 0, none⟩ = some (.int .u64 0) := (blk_cell BK193.out 0).trans rfl; have hcz18_1 : w17.cell? ⟨gb193, 1, none⟩ = some (.int .u64 0) := (blk_cell BK193.out 1).trans rfl; have hcz18_2 : w17.cell? ⟨gb193, 2, none⟩ = some (.string (⟨#[]⟩ : ByteArray)) := (blk_cell BK193.out 2).trans rfl; have hfz18_0 := blk_frozen BK193.out 0; have hfz18_1 := blk_frozen BK193.out 1; have hfz18_2 := blk_frozen BK193.out 2))
      (try simp only [Act.put, List.setIfInBounds_toArray, List.set_cons_zero, List.set_cons_succ])
      go_cut [37] (fun v37 wc => ∃ (kq : Nat) (x37_10 : Bool), v37 = .bool x37_10 ∧ Aside0 (rostrumlaw08_BallotMost.j0 kq t185 t188 t180 x37_10 t189 t190 t191 = some r) ∧ Aside0 (kq ≤ k) ∧ Aside0 (Kd.R k24 24 wc w.heap.size (fun k_ => k_ ≠ gb193) v186 t185) ∧ Aside0 (wc.heap[gb193]? = some (.cells #[.int .u64 t189, .int .u64 t190, .string t191] 24 (0, 0))) ∧ Aside0 (Below w.heap.size w wc))
      case first =>
        have H := HC11.out
        clear HC11
        by_cases c19 : t192 = 0
        · rw [if_pos c19] at H
          have c19b0 : (t192 == 0) = true := beq_iff_eq.mpr c19
          have c19b1 : (t192 != 0) = false := bne_eq_false_iff_eq.mpr c19
          clear c19
          (first | rw [c19b0] | (simp only [i64_w, i32_w]; rw [c19b0]) | skip)
          have H' := Aside0.mk H
          clear H
          obtain ⟨Ao20, co20, eo20⟩ := Kd.R_slice HO187.out
          subst eo20
          go_wp2
          go_meet
          case rel => exact ⟨_, (((t185.length : Int) == 0)), (by first | rfl | (simp; done) | (simp [*]; done)), H', ⟨by first | omega | exact Nat.le_refl _⟩, ⟨by (with_reducible repeat (first | apply Kd.R_alloc | apply Kd.R_drewN | apply Kd.R_drew)); exact Kd.R_mono (Kd.R_far (p := ⟨gb193, 2, none⟩) (Kd.R_far (p := ⟨gb193, 1, none⟩) (Kd.R_far (p := ⟨gb193, 0, none⟩) (Kd.R_mono HO187.out (fun k_ hk => (⟨hk, hk.2⟩ : _ ∧ k_ ≠ gb193))) (fun _ hk => hk.2) (.int .u64 t189)) (fun _ hk => hk.2) (.int .u64 t190)) (fun _ hk => hk.2) (.string t191)) (fun _ hk => hk.1.2)⟩, ⟨by (with_reducible repeat (first | refine blk_drewN ?_ _ | refine blk_drew ?_ | refine blk_alloc ?_ _)); refine blk_put (cs := #[.int .u64 t189, .int .u64 t190, .string (⟨#[]⟩ : ByteArray)]) ?_ 2 _ rfl; (with_reducible repeat (first | refine blk_drewN ?_ _ | refine blk_drew ?_ | refine blk_alloc ?_ _)); refine blk_put (cs := #[.int .u64 t189, .int .u64 0, .string (⟨#[]⟩ : ByteArray)]) ?_ 1 _ rfl; (with_reducible repeat (first | refine blk_drewN ?_ _ | refine blk_drew ?_ | refine blk_alloc ?_ _)); refine blk_put (cs := #[.int .u64 0, .int .u64 0, .string (⟨#[]⟩ : ByteArray)]) ?_ 0 _ rfl; (with_reducible repeat (first | refine blk_drewN ?_ _ | refine blk_drew ?_ | refine blk_alloc ?_ _)); exact BK193.out⟩, ⟨by repeat (first | (with_reducible first | exact HB.out | apply below_alloc | apply pw_below_drewN | apply below_drew1 | refine below_set ?_ GE193.out) | exact HB.out)⟩⟩
        · rw [if_neg c19] at H
          have c19b0 : (t192 == 0) = false := beq_eq_false_iff_ne.mpr c19
          have c19b1 : (t192 != 0) = true := bne_iff_ne.mpr c19
          (first | rw [c19b0] | (simp only [i64_w, i32_w]; rw [c19b0]) | skip)
          have H' := Aside0.mk H
          clear H
          go_wp2
          go_meet
          case rel => exact ⟨_, (true), (by first | rfl | (simp; done) | (simp [*]; done)), H', ⟨by first | omega | exact Nat.le_refl _⟩, ⟨by (with_reducible repeat (first | apply Kd.R_alloc | apply Kd.R_drewN | apply Kd.R_drew)); exact Kd.R_mono (Kd.R_far (p := ⟨gb193, 2, none⟩) (Kd.R_far (p := ⟨gb193, 1, none⟩) (Kd.R_far (p := ⟨gb193, 0, none⟩) (Kd.R_mono HO187.out (fun k_ hk => (⟨hk, hk.2⟩ : _ ∧ k_ ≠ gb193))) (fun _ hk => hk.2) (.int .u64 t189)) (fun _ hk => hk.2) (.int .u64 t190)) (fun _ hk => hk.2) (.string t191)) (fun _ hk => hk.1.2)⟩, ⟨by (with_reducible repeat (first | refine blk_drewN ?_ _ | refine blk_drew ?_ | refine blk_alloc ?_ _)); refine blk_put (cs := #[.int .u64 t189, .int .u64 t190, .string (⟨#[]⟩ : ByteArray)]) ?_ 2 _ rfl; (with_reducible repeat (first | refine blk_drewN ?_ _ | refine blk_drew ?_ | refine blk_alloc ?_ _)); refine blk_put (cs := #[.int .u64 t189, .int .u64 0, .string (⟨#[]⟩ : ByteArray)]) ?_ 1 _ rfl; (with_reducible repeat (first | refine blk_drewN ?_ _ | refine blk_drew ?_ | refine blk_alloc ?_ _)); refine blk_put (cs := #[.int .u64 0, .int .u64 0, .string (⟨#[]⟩ : ByteArray)]) ?_ 0 _ rfl; (with_reducible repeat (first | refine blk_drewN ?_ _ | refine blk_drew ?_ | refine blk_alloc ?_ _)); exact BK193.out⟩, ⟨by repeat (first | (with_reducible first | exact HB.out | apply below_alloc | apply pw_below_drewN | apply below_drew1 | refine below_set ?_ GE193.out) | exact HB.out)⟩⟩
      case rest =>
        clear HC11
        try clear c1
        try clear q1
        try clear p2
        try clear c5
        try clear c6
        try clear c6b0
        try clear c6b1
        try clear c7
        try clear c7b0
        try clear c7b1
        try clear c10
        try clear c11
        try clear q13
        try clear c14
        try clear c18
        try clear c19
        try clear c19b0
        try clear c19b1
        try clear hcz18_0
        try clear hcz18_1
        try clear hcz18_2
        try clear hfz18_0
        try clear hfz18_1
        try clear hfz18_2
        try clear q13
        obtain ⟨kq, x37_10, rfl, HA, HJ10, HO_0, BK193, HB⟩ := hcut
        cases kq with
        | zero => exact absurd HA.out (by simp [rostrumlaw08_BallotMost.j0])
        | succ kj10 =>
          have H := HA.out
          clear HA
          simp only [rostrumlaw08_BallotMost.j0] at H
          by_cases c21 : x37_10 = true
          · subst c21
            have H1 : (some t180) = some r := by rw [if_pos rfl] at H; exact H
            clear H
            have H := H1
            clear H1
            obtain rfl := Option.some.inj H
            go_wp2
            go_ret
            exact ⟨by first | rfl | (simp [errW_none, errW_some] <;> rfl) | (simp only [← hji5]; first | rfl | (simp [errW_none, errW_some] <;> rfl)) | (simp [*, errW_none, errW_some] <;> rfl), by repeat (first | (with_reducible first | exact HB.out | apply below_alloc | apply pw_below_drewN | apply below_drew1 | refine below_set ?_ GE193.out) | exact HB.out)⟩
          · replace c21 := Bool.eq_false_iff.mpr c21
            subst c21
            have H1 : (if 0 ≤ 8796093022208 then ((some (List.replicate 0 z24 : List (S24))).bind fun y194 => (if y194.length + t185.length < 4398046511104 then (rostrumlaw08_BallotMost.l0 kj10 t185 t188 t180 (y194 ++ t185) 0 t189 t190 t191) else (none))) else (none)) = some r := by rw [if_neg (show ¬ (false = true) by decide)] at H; exact H
            clear H
            have H := H1
            clear H1
            by_cases c22 : 0 ≤ 8796093022208
            · rw [if_pos c22] at H
              have c22b0 := eq_true c22
              have c22b1 : decide (0 ≤ 8796093022208) = true := decide_eq_true c22
              clear c22
              obtain ⟨y194, hy194⟩ : ∃ y_ : List (S24), y_ = (List.replicate 0 z24) := ⟨_, rfl⟩
              replace H : (if y194.length + t185.length < 4398046511104 then (rostrumlaw08_BallotMost.l0 kj10 t185 t188 t180 (y194 ++ t185) 0 t189 t190 t191) else (none)) = some r := by first | (rw [hy194]; with_reducible exact H) | (have H2_ := (Option.bind_some _ _).symm.trans H; rw [hy194]; with_reducible exact H2_) | (have H2_ := (Option.bind_some _ _).symm.trans H; with_reducible exact H2_) | with_reducible exact H | (rw [hy194]; exact H) | exact H
              have Ny194 := Aside0.mk hy194
              clear hy194
              by_cases c23 : y194.length + t185.length < 4398046511104
              · rw [if_pos c23] at H
                have LMc23 := Aside0.mk c23
                clear c23
                obtain ⟨y197, hy197⟩ : ∃ y_ : List (S24), y_ = (y194 ++ t185) := ⟨_, rfl⟩
                replace H : (rostrumlaw08_BallotMost.l0 kj10 t185 t188 t180 y197 0 t189 t190 t191) = some r := by first | (rw [hy197]; with_reducible exact H) | (have H2_ := (Option.bind_some _ _).symm.trans H; rw [hy197]; with_reducible exact H2_) | (have H2_ := (Option.bind_some _ _).symm.trans H; with_reducible exact H2_) | with_reducible exact H | (rw [hy197]; exact H) | exact H
                have Ny197 := Aside0.mk hy197
                clear hy197
                have H' := Aside0.mk H
                clear H
                go_wp2_with (first | ((with_reducible refine gate_dst (N := 39) rfl ?_); (try (refine gate_guard (by rfl) ?_; dsimp only)); refine Go.Proofs.Ytnllilpbgenjbaa.G.R_make0 (c := 16) (hcap := by decide) k24 _ 24 rfl (N := 39) rfl 36 _ _ rfl 0 rfl rfl Try.underlying36 (.agg #[(.int .u64 0), (.int .u64 0), (.string ⟨#[]⟩)]) 32 info24 rfl (by decide) (by omega) z24 (ok := fun _ => True) (okp := fun _ => True) (k24_mkM _ _ _ z24 ) (fun _ hk => hk) trivial (by omega) (by omega) (Below.refl _ _) (Nat.le_refl _) ?_; intro v195 w24 ho25 hb hg_ hnew_; clear hg_ hnew_; (first | rw [← Ny194.out] at ho25 | (simp only [Int.reduceToNat] at ho25; rw [← Ny194.out] at ho25)); have n0_ := Aside0.mk (Kd.R_elder' (by (with_reducible repeat (first | apply Kd.R_alloc | apply Kd.R_drewN | apply Kd.R_drew)); exact HO_0.out) (Kd.R_base ho25) hb); have n1_ := Aside0.mk (Kd.R_lower (Kd.R_newB (Kd.R_new' ho25 (Kd.R_lt (by (with_reducible repeat (first | apply Kd.R_alloc | apply Kd.R_drewN | apply Kd.R_drew)); exact HO_0.out))) (g := gb193) (o := .cells #[.int .u64 t189, .int .u64 t190, .string t191] 24 (0, 0)) (by (with_reducible repeat (first | refine blk_drewN ?_ _ | refine blk_drew ?_ | refine blk_alloc ?_ _)); exact BK193.out)) (below_size (by repeat (first | (with_reducible first | exact HB.out | apply below_alloc | apply pw_below_drewN | apply below_drew1 | refine below_set ?_ GE193.out) | exact HB.out)))); have n2_ := Aside0.mk (blk_below (g := gb193) (o := .cells #[.int .u64 t189, .int .u64 t190, .string t191] 24 (0, 0)) (by (with_reducible repeat (first | refine blk_drewN ?_ _ | refine blk_drew ?_ | refine blk_alloc ?_ _)); exact BK193.out) hb); have n3_ := Aside0.mk (below_step (by repeat (first | (with_reducible first | exact HB.out | apply below_alloc | apply pw_below_drewN | apply below_drew1 | refine below_set ?_ GE193.out) | exact HB.out)) hb); clear HO_0; clear BK193; clear HB; have HO_0 := n0_; have HO196 := n1_; have BK193 := n2_; have HB := n3_; clear n0_ n1_ n2_ n3_; clear hb ho25; obtain ⟨Ao27, co27, eo27⟩ := Kd.R_slice HO_0.out; subst eo27) | ((with_reducible refine gate_builtin (b := .append) (xs := #[.tmp 39, .tmp 40]) rfl ?_); (try (refine gate_guard (by rfl) ?_; dsimp only)); at_builtin; refine Kd.R_append_rows k24 (w0 := w) w.heap.size rfl (.tmp 39) (.tmp 40) 36 24 (.agg #[(.int .u64 0), (.int .u64 0), (.string ⟨#[]⟩)]) 32 rfl Try.underlying36 info24 rfl (by decide) (by omega) v195 y194 t185 _ _ _ (fun k_ => some k_ ≠ (.slice Ao27 t185.length co27 : Value).ownBlock ∧ k_ ≠ gb193) (fun _ => False) rfl rfl ?aO ?aR (fun _ _ h => h) (fun _ h => h.elim) ?aF ?aB ?aS ?aL ?_; (case aR => repeat (first | exact (Kd.R_reads' HO_0.out).2.2 | (with_reducible refine Kd.C_alloc ?_ _) | (with_reducible refine Kd.C_drewN ?_ _) | (with_reducible refine Kd.C_drew ?_))); (case aB => exact (by repeat (first | (with_reducible first | exact HB.out | apply below_alloc | apply pw_below_drewN | apply below_drew1 | refine below_set ?_ GE193.out) | exact HB.out))); (case aF => exact (fun k_ hk => ⟨Kd.fresh' (Kd.R_lt (by (with_reducible repeat (first | apply Kd.R_alloc | apply Kd.R_drewN | apply Kd.R_drew)); exact HO_0.out)) k_ hk, Kd.freshB (g := gb193) (o := .cells #[.int .u64 t189, .int .u64 t190, .string t191] 24 (0, 0)) (by (with_reducible repeat (first | refine blk_drewN ?_ _ | refine blk_drew ?_ | refine blk_alloc ?_ _)); exact BK193.out) k_ hk⟩)); (case aO => exact (by (with_reducible repeat (first | apply Kd.R_alloc | apply Kd.R_drewN | apply Kd.R_drew)); exact Kd.R_mono HO196.out (fun _ hk => ⟨hk.1.2, hk.2⟩))); (case aS => exact (below_size (by repeat (first | (with_reducible first | exact HB.out | apply below_alloc | apply pw_below_drewN | apply below_drew1 | refine below_set ?_ GE193.out) | exact HB.out)))); (case aL => have := LMc23.out; omega); intro v198 w26 ho hb hg hat; rw [← Ny197.out] at ho; have n0_ := Aside0.mk (Kd.R_after (ok := (fun k_ => k_ ≠ gb193)) (by (with_reducible repeat (first | apply Kd.R_alloc | apply Kd.R_drewN | apply Kd.R_drew)); exact HO_0.out) hg hat); have n1_ := Aside0.mk (blk_grown (g := gb193) (o := .cells #[.int .u64 t189, .int .u64 t190, .string t191] 24 (0, 0)) (by (with_reducible repeat (first | refine blk_drewN ?_ _ | refine blk_drew ?_ | refine blk_alloc ?_ _)); exact BK193.out) hg (Kd.R_away HO196.out (fun _ hk => hk.2))); have n2_ := Aside0.mk (hb); have n3_ := Aside0.mk (ho); clear HO_0; clear BK193; clear HB; clear HO196; have HO_0 := n0_; have BK193 := n1_; have HB := n2_; have HO199 := n3_; clear n0_ n1_ n2_ n3_; clear ho hb hg hat))
                go_loopg [11] kj10 (fun kq v11 w' => ∃ (x10_2 : List (S24)) (x11_2 : Int) (x194000_2 : Int) (x194001_2 : Int) (x194002_2 : ByteArray), v11 = .int .i64 x11_2 ∧ Aside0 (rostrumlaw08_BallotMost.l0 kq t185 t188 t180 x10_2 x11_2 x194000_2 x194001_2 x194002_2 = some r) ∧ Aside0 (kq ≤ kj10) ∧ Aside0 (Kd.R k24 24 w' w.heap.size (fun k_ => some k_ ≠ (v198 : Value).ownBlock ∧ k_ ≠ gb193) (.slice Ao27 t185.length co27) t185) ∧ Aside0 (Kd.R k24 24 w' w.heap.size (fun k_ => some k_ ≠ ((.slice Ao27 t185.length co27) : Value).ownBlock ∧ k_ ≠ gb193) v198 x10_2) ∧ Aside0 (w'.heap[gb193]? = some (.cells #[.int .u64 x194000_2, .int .u64 x194001_2, .string x194002_2] 24 (0, 0))) ∧ Aside0 (Below w.heap.size w w'))
                case atStart => exact ⟨(y197), (0), (t189), (t190), (t191), (by first | rfl | (simp; done) | (simp [*]; done)), H', ⟨Nat.le_refl _⟩, ⟨by (with_reducible repeat (first | apply Kd.R_alloc | apply Kd.R_drewN | apply Kd.R_drew)); exact Kd.R_mono HO_0.out (fun _ hk => ⟨hk.2, hk.1⟩)⟩, ⟨by (with_reducible repeat (first | apply Kd.R_alloc | apply Kd.R_drewN | apply Kd.R_drew)); exact HO199.out⟩, ⟨by (with_reducible repeat (first | refine blk_drewN ?_ _ | refine blk_drew ?_ | refine blk_alloc ?_ _)); exact BK193.out⟩, ⟨by repeat (first | (with_reducible first | exact HB.out | apply below_alloc | apply pw_below_drewN | apply below_drew1 | refine below_set ?_ GE193.out) | exact HB.out)⟩⟩
                case round =>
                  clear H'
                  try clear c1
                  try clear q1
                  try clear c2
                  try clear p2
                  try clear c5
                  try clear c6
                  try clear c6b0
                  try clear c6b1
                  try clear c7
                  try clear c7b0
                  try clear c7b1
                  try clear c10
                  try clear c11
                  try clear q13
                  try clear c14
                  try clear c18
                  try clear c19
                  try clear c19b0
                  try clear c19b1
                  try clear c21
                  try clear c22
                  try clear c22b0
                  try clear c22b1
                  try clear c23
                  try clear hcz18_0
                  try clear hcz18_1
                  try clear hcz18_2
                  try clear hfz18_0
                  try clear hfz18_1
                  try clear hfz18_2
                  try clear p2
                  try clear q1
                  try clear q13
                  obtain ⟨x10_2, x11_2, x194000_2, x194001_2, x194002_2, rfl, HA, HK2, HO_0, HO_10, BK193, HB⟩ := hrel
                  cases gk with
                  | zero => exact absurd HA.out (by simp [rostrumlaw08_BallotMost.l0])
                  | succ k2 =>
                    have H := HA.out
                    clear HA
                    simp only [rostrumlaw08_BallotMost.l0] at H
                    by_cases c28 : (wrap64 (2 * x11_2)) ≤ (t185.length : Int)
                    · rw [if_pos c28] at H
                      have c28b0 : decide ((wrap64 (2 * x11_2)) ≤ (t185.length : Int)) = true := decide_eq_true c28
                      clear c28
                      by_cases c29 : 0 ≤ x11_2
                      · rw [if_pos c29] at H
                        have c29b0 : decide (0 ≤ x11_2) = true := decide_eq_true c29
                        clear c29
                        by_cases c30 : x11_2 < (x10_2.length : Int)
                        · rw [if_pos c30] at H
                          have c30b0 : decide (x11_2 < (x10_2.length : Int)) = true := decide_eq_true c30
                          clear c30
                          obtain ⟨y200, hy200⟩ : ∃ y_ : List (S24), y_ = (x10_2.set (x11_2 : Int).toNat (⟨x194000_2, x194001_2, x194002_2⟩ : S24)) := ⟨_, rfl⟩
                          replace H : (rostrumlaw08_BallotMost.l0 k2 t185 t188 t180 y200 (wrap64 (x11_2 + 1)) x194000_2 x194001_2 x194002_2) = some r := by first | (rw [hy200]; with_reducible exact H) | (have H2_ := (Option.bind_some _ _).symm.trans H; rw [hy200]; with_reducible exact H2_) | (have H2_ := (Option.bind_some _ _).symm.trans H; with_reducible exact H2_) | with_reducible exact H | (rw [hy200]; exact H) | exact H
                          have Ny200 := Aside0.mk hy200
                          clear hy200
                          have H' := Aside0.mk H
                          clear H
                          have hcz32_0 : wr.cell? ⟨gb193, 0, none⟩ = some (.int .u64 x194000_2) := (blk_cell BK193.out 0).trans rfl
                          have hcz32_1 : wr.cell? ⟨gb193, 1, none⟩ = some (.int .u64 x194001_2) := (blk_cell BK193.out 1).trans rfl
                          have hcz32_2 : wr.cell? ⟨gb193, 2, none⟩ = some (.string x194002_2) := (blk_cell BK193.out 2).trans rfl
                          have hfz32_0 := blk_frozen BK193.out 0
                          have hfz32_1 := blk_frozen BK193.out 1
                          have hfz32_2 := blk_frozen BK193.out 2
                          have p31 : 0 ≤ (x11_2 : Int) := of_decide_eq_true (by first | (with_reducible assumption) | assumption)
                          have q31 : (x11_2 : Int) < ((x10_2.length : Int) : Int) := of_decide_eq_true (by first | (with_reducible assumption) | assumption)
                          obtain ⟨go31, co31, eo31, gb31, gl31, cl31, HG31⟩ := Kd.R_form HO_10.out (by omega)
                          (first | cases eo31 | (injection eo31 with ea_ en_ ec_; (first | subst ea_ | (injection ea_ with ea_; subst ea_)); subst ec_; clear en_))
                          have GB31 := Aside0.mk gb31
                          have GG31 := Aside0.mk HG31
                          clear gb31 gl31 HG31
                          obtain ⟨ce31, hcl31, hM31, hcc31, hfr31⟩ := Kd.R_elem HO_10.out z24 (x11_2 : Int) p31 q31
                          obtain rfl := k24_openM hM31
                          have hx31_0 : wr.cell? ⟨go31, (x11_2 : Int).toNat * 3, none⟩ = some (.int .u64 ((rd_T24 x10_2 x11_2).f0)) := hcc31 0 _ rfl
                          have hx31_1 : wr.cell? ⟨go31, (x11_2 : Int).toNat * 3 + 1, none⟩ = some (.int .u64 ((rd_T24 x10_2 x11_2).f1)) := hcc31 1 _ rfl
                          have hx31_2 : wr.cell? ⟨go31, (x11_2 : Int).toNat * 3 + 2, none⟩ = some (.string ((rd_T24 x10_2 x11_2).f2)) := hcc31 2 _ rfl
                          have hf31_0 : wr.frozen? ⟨go31, (x11_2 : Int).toNat * 3, none⟩ = false := hfr31 0
                          have hf31_1 : wr.frozen? ⟨go31, (x11_2 : Int).toNat * 3 + 1, none⟩ = false := hfr31 1
                          have hf31_2 : wr.frozen? ⟨go31, (x11_2 : Int).toNat * 3 + 2, none⟩ = false := hfr31 2
                          clear hcl31 hcc31 hfr31 hM31
                          replace p31 := eq_true p31
                          replace q31 := eq_true q31
                          have HX33 := Aside0.mk (show Kd.R k24 24 wr w.heap.size (fun k_ => some k_ ≠ (.slice Ao27 t185.length co27 : Value).ownBlock ∧ k_ ≠ gb193) (.slice (some ⟨go31, 0, none⟩) x10_2.length co31) x10_2 from (by (with_reducible repeat (first | apply Kd.R_alloc | apply Kd.R_drewN | apply Kd.R_drew)); exact HO_10.out))
                          obtain ⟨ce33, hcl33, hM33, hcc33, hfr33⟩ := Kd.R_elem HX33.out z24 (x11_2 : Int) (of_decide_eq_true (by first | (with_reducible assumption) | assumption)) (by have h_ : (x11_2 : Int) < ((x10_2.length : Int) : Int) := of_decide_eq_true (by first | (with_reducible assumption) | assumption); first | exact h_ | (have e_ := (Kd.R_reads' HO_10.out).1; omega) | simpa using h_)
                          obtain rfl := k24_openM hM33
                          have HP33 := Kd.R_seg HX33.out (x11_2 : Int) (of_decide_eq_true (by first | (with_reducible assumption) | assumption)) (by have h_ : (x11_2 : Int) < ((x10_2.length : Int) : Int) := of_decide_eq_true (by first | (with_reducible assumption) | assumption); first | exact h_ | (have e_ := (Kd.R_reads' HO_10.out).1; omega) | simpa using h_) (seg := [.int .u64 x194000_2, .int .u64 x194001_2, .string x194002_2]) (j := 0) hcl33 hcc33 (show 3 ≤ 3 from by decide) (x' := (⟨x194000_2, x194001_2, x194002_2⟩ : S24)) (k24_mkM _ _ _ (⟨x194000_2, x194001_2, x194002_2⟩ : S24) ) (fun _ hk => hk)
                          have hx33_0 := hcc33 0 _ rfl
                          (try simp only [show (k24).sz = 3 from rfl, Nat.mul_one, Nat.add_zero] at hx33_0)
                          have hf33_0 := hfr33 0
                          (try simp only [show (k24).sz = 3 from rfl, Nat.mul_one, Nat.add_zero] at hf33_0)
                          have hx33_1 := hcc33 1 _ rfl
                          (try simp only [show (k24).sz = 3 from rfl, Nat.mul_one, Nat.add_zero] at hx33_1)
                          have hf33_1 := hfr33 1
                          (try simp only [show (k24).sz = 3 from rfl, Nat.mul_one, Nat.add_zero] at hf33_1)
                          have hx33_2 := hcc33 2 _ rfl
                          (try simp only [show (k24).sz = 3 from rfl, Nat.mul_one, Nat.add_zero] at hx33_2)
                          have hf33_2 := hfr33 2
                          (try simp only [show (k24).sz = 3 from rfl, Nat.mul_one, Nat.add_zero] at hf33_2)
                          clear hcl33 hcc33 hfr33 hM33
                          go_wp2_with (first | ((with_reducible refine gate_store (t := 24) (p := 52) rfl ?_); refine store_event (t := 24) (p := 52) (v := ?vo_w34) (w1 := (((wr.setCell ⟨go31, (x11_2 : Int).toNat * 3, none⟩ (.int .u64 x194000_2)).setCell ⟨go31, (x11_2 : Int).toNat * 3 + 1, none⟩ (.int .u64 x194001_2)).setCell ⟨go31, (x11_2 : Int).toNat * 3 + 2, none⟩ (.string x194002_2))) ?hg ?ho ?hn ?hr ?_; (case ho => rfl); (case hg => rfl); (case hn => rfl); (case hr => first | (go_simp; done) | (go_simp; rfl)); intro w34 hw; have hg : wr.grownBy w34 (some go31) := (by rw [hw]; exact HP33.2); have hp_ : Kd.R k24 24 w34 w.heap.size (fun k_ => some k_ ≠ (.slice Ao27 t185.length co27 : Value).ownBlock ∧ k_ ≠ gb193) (.slice (some ⟨go31, 0, none⟩) x10_2.length co31) y200 := (by rw [hw, Ny200.out]; exact HP33.1); clear HP33; have n0_ := Aside0.mk (Kd.R_after (v := (.slice (some ⟨go31, 0, none⟩) x10_2.length co31)) (v1 := (.slice (some ⟨go31, 0, none⟩) x10_2.length co31)) (ok := (fun k_ => k_ ≠ gb193)) (by (with_reducible repeat (first | apply Kd.R_alloc | apply Kd.R_drewN | apply Kd.R_drew)); exact Kd.R_mono HO_0.out (fun _ hk => ⟨hk.2, hk.1⟩)) hg (.inl rfl)); have n1_ := Aside0.mk (hp_); have n2_ := Aside0.mk (blk_grown (g := gb193) (o := .cells #[.int .u64 x194000_2, .int .u64 x194001_2, .string x194002_2] 24 (0, 0)) (by (with_reducible repeat (first | refine blk_drewN ?_ _ | refine blk_drew ?_ | refine blk_alloc ?_ _)); exact BK193.out) hg (Kd.R_away HO_10.out (fun _ hk => hk.2))); have n3_ := Aside0.mk ((by rw [hw]; exact below_set (below_set (below_set (HB.out) GB31.out) GB31.out) GB31.out : Below w.heap.size w w34)); clear HO_0; clear HO_10; clear BK193; clear HB; have HO_0 := n0_; have HO_10 := n1_; have BK193 := n2_; have HB := n3_; clear n0_ n1_ n2_ n3_; clear hg hw hp_))
                          go_roundg k2
                          case measure => have := HJ10.out; have := HK2.out; omega
                          case rel => exact ⟨(y200), (wrap64 (x11_2 + 1)), (x194000_2), (x194001_2), (x194002_2), (by first | rfl | (simp; done) | (simp [*]; done)), H', ⟨by have := HJ10.out; have := HK2.out; omega⟩, ⟨by (with_reducible repeat (first | apply Kd.R_alloc | apply Kd.R_drewN | apply Kd.R_drew)); exact Kd.R_mono HO_0.out (fun _ hk => ⟨hk.2, hk.1⟩)⟩, ⟨by (with_reducible repeat (first | apply Kd.R_alloc | apply Kd.R_drewN | apply Kd.R_drew)); exact HO_10.out⟩, ⟨by (with_reducible repeat (first | refine blk_drewN ?_ _ | refine blk_drew ?_ | refine blk_alloc ?_ _)); exact BK193.out⟩, ⟨by repeat (first | (with_reducible first | exact HB.out | apply below_alloc | apply pw_below_drewN | apply below_drew1 | refine below_set ?_ GE193.out) | exact HB.out)⟩⟩
                        · rw [if_neg c30] at H
                          exact absurd H (by simp)
                      · rw [if_neg c29] at H
                        exact absurd H (by simp)
                    · rw [if_neg c28] at H
                      have c28b0 : decide ((wrap64 (2 * x11_2)) ≤ (t185.length : Int)) = false := decide_eq_false c28
                      clear c28
                      replace H := Option.bind_eq_some_iff.mp H
                      obtain ⟨⟨t201, t202, t203⟩, A350, H⟩ := H
                      replace H : (if t180 = true then (if t203 = 0 then (if t202 = true then (some (t201.toList == t188.toList)) else (some false)) else (some true)) else (some false)) = some r := H
                      have A35 := Aside0.mk A350
                      clear A350
                      by_cases c36 : t180 = true
                      · subst c36
                        have H1 : (if t203 = 0 then (if t202 = true then (some (t201.toList == t188.toList)) else (some false)) else (some true)) = some r := by rw [if_pos rfl] at H; exact H
                        clear H
                        have H := H1
                        clear H1
                        by_cases c37 : t203 = 0
                        · rw [if_pos c37] at H
                          have c37b0 : (t203 == 0) = true := beq_iff_eq.mpr c37
                          have c37b1 : (t203 != 0) = false := bne_eq_false_iff_eq.mpr c37
                          clear c37
                          by_cases c38 : t202 = true
                          · subst c38
                            have H1 : (some (t201.toList == t188.toList)) = some r := by rw [if_pos rfl] at H; exact H
                            clear H
                            have H := H1
                            clear H1
                            obtain rfl := Option.some.inj H
                            obtain ⟨Ao39, co39, eo39⟩ := Kd.R_slice HO_10.out
                            subst eo39
                            go_wp2_with (first | ((with_reducible refine gate_callee (f := 19) rfl ?_); refine goesL_ (some 55) rfl rfl Try.func19 (by kernel_rfl) rfl #[.slice Ao39 x10_2.length co39] rfl (by (try simp only [List.map_toArray, List.map_cons, List.map_nil]); first | done | rfl | (simp only [List.length_drop, List.length_take]; rfl)) ?_; (with_reducible refine (G.ballot_Decided.calls _ _ x10_2 t201 true t203 _ ?side1 ?side2 A35.out).mono ?_); (case side1 => repeat (first | exact (Kd.R_reads' HO_10.out).2.2 | (with_reducible refine Kd.C_alloc ?_ _) | (with_reducible refine Kd.C_drewN ?_ _) | (with_reducible refine Kd.C_drew ?_))); (case side2 => exact (Kd.R_reads' HO_10.out).2.1); rintro e w40 ⟨rfl, hb⟩; refine ⟨_, rfl, ?_⟩; have n0_ := Aside0.mk (Kd.R_below (by (with_reducible repeat (first | apply Kd.R_alloc | apply Kd.R_drewN | apply Kd.R_drew)); exact HO_0.out) hb); have n1_ := Aside0.mk (Kd.R_below (by (with_reducible repeat (first | apply Kd.R_alloc | apply Kd.R_drewN | apply Kd.R_drew)); exact HO_10.out) hb); have n2_ := Aside0.mk (blk_below (g := gb193) (o := .cells #[.int .u64 x194000_2, .int .u64 x194001_2, .string x194002_2] 24 (0, 0)) (by (with_reducible repeat (first | refine blk_drewN ?_ _ | refine blk_drew ?_ | refine blk_alloc ?_ _)); exact BK193.out) hb); have n3_ := Aside0.mk (below_step (by repeat (first | (with_reducible first | exact HB.out | apply below_alloc | apply pw_below_drewN | apply below_drew1 | refine below_set ?_ GE193.out) | exact HB.out)) hb); clear HO_0; clear HO_10; clear BK193; clear HB; have HO_0 := n0_; have HO_10 := n1_; have BK193 := n2_; have HB := n3_; clear n0_ n1_ n2_ n3_; (try clear hb); (try clear hb2); (try clear hk); (try clear hi)))
                            go_ret
                            exact ⟨by first | rfl | (simp [errW_none, errW_some] <;> rfl) | (simp only [← hji5]; first | rfl | (simp [errW_none, errW_some] <;> rfl)) | (simp [*, errW_none, errW_some] <;> rfl), by repeat (first | (with_reducible first | exact HB.out | apply below_alloc | apply pw_below_drewN | apply below_drew1 | refine below_set ?_ GE193.out) | exact HB.out)⟩
                          · replace c38 := Bool.eq_false_iff.mpr c38
                            subst c38
                            have H1 : (some false) = some r := by rw [if_neg (show ¬ (false = true) by decide)] at H; exact H
                            clear H
                            have H := H1
                            clear H1
                            obtain rfl := Option.some.inj H
                            obtain ⟨Ao41, co41, eo41⟩ := Kd.R_slice HO_10.out
                            subst eo41
                            go_wp2_with (first | ((with_reducible refine gate_callee (f := 19) rfl ?_); refine goesL_ (some 55) rfl rfl Try.func19 (by kernel_rfl) rfl #[.slice Ao41 x10_2.length co41] rfl (by (try simp only [List.map_toArray, List.map_cons, List.map_nil]); first | done | rfl | (simp only [List.length_drop, List.length_take]; rfl)) ?_; (with_reducible refine (G.ballot_Decided.calls _ _ x10_2 t201 false t203 _ ?side1 ?side2 A35.out).mono ?_); (case side1 => repeat (first | exact (Kd.R_reads' HO_10.out).2.2 | (with_reducible refine Kd.C_alloc ?_ _) | (with_reducible refine Kd.C_drewN ?_ _) | (with_reducible refine Kd.C_drew ?_))); (case side2 => exact (Kd.R_reads' HO_10.out).2.1); rintro e w42 ⟨rfl, hb⟩; refine ⟨_, rfl, ?_⟩; have n0_ := Aside0.mk (Kd.R_below (by (with_reducible repeat (first | apply Kd.R_alloc | apply Kd.R_drewN | apply Kd.R_drew)); exact HO_0.out) hb); have n1_ := Aside0.mk (Kd.R_below (by (with_reducible repeat (first | apply Kd.R_alloc | apply Kd.R_drewN | apply Kd.R_drew)); exact HO_10.out) hb); have n2_ := Aside0.mk (blk_below (g := gb193) (o := .cells #[.int .u64 x194000_2, .int .u64 x194001_2, .string x194002_2] 24 (0, 0)) (by (with_reducible repeat (first | refine blk_drewN ?_ _ | refine blk_drew ?_ | refine blk_alloc ?_ _)); exact BK193.out) hb); have n3_ := Aside0.mk (below_step (by repeat (first | (with_reducible first | exact HB.out | apply below_alloc | apply pw_below_drewN | apply below_drew1 | refine below_set ?_ GE193.out) | exact HB.out)) hb); clear HO_0; clear HO_10; clear BK193; clear HB; have HO_0 := n0_; have HO_10 := n1_; have BK193 := n2_; have HB := n3_; clear n0_ n1_ n2_ n3_; (try clear hb); (try clear hb2); (try clear hk); (try clear hi)))
                            go_ret
                            exact ⟨by first | rfl | (simp [errW_none, errW_some] <;> rfl) | (simp only [← hji5]; first | rfl | (simp [errW_none, errW_some] <;> rfl)) | (simp [*, errW_none, errW_some] <;> rfl), by repeat (first | (with_reducible first | exact HB.out | apply below_alloc | apply pw_below_drewN | apply below_drew1 | refine below_set ?_ GE193.out) | exact HB.out)⟩
                        · rw [if_neg c37] at H
                          have c37b0 : (t203 == 0) = false := beq_eq_false_iff_ne.mpr c37
                          have c37b1 : (t203 != 0) = true := bne_iff_ne.mpr c37
                          obtain rfl := Option.some.inj H
                          obtain ⟨Ao43, co43, eo43⟩ := Kd.R_slice HO_10.out
                          subst eo43
                          go_wp2_with (first | ((with_reducible refine gate_callee (f := 19) rfl ?_); refine goesL_ (some 55) rfl rfl Try.func19 (by kernel_rfl) rfl #[.slice Ao43 x10_2.length co43] rfl (by (try simp only [List.map_toArray, List.map_cons, List.map_nil]); first | done | rfl | (simp only [List.length_drop, List.length_take]; rfl)) ?_; (with_reducible refine (G.ballot_Decided.calls _ _ x10_2 t201 t202 t203 _ ?side1 ?side2 A35.out).mono ?_); (case side1 => repeat (first | exact (Kd.R_reads' HO_10.out).2.2 | (with_reducible refine Kd.C_alloc ?_ _) | (with_reducible refine Kd.C_drewN ?_ _) | (with_reducible refine Kd.C_drew ?_))); (case side2 => exact (Kd.R_reads' HO_10.out).2.1); rintro e w44 ⟨rfl, hb⟩; refine ⟨_, rfl, ?_⟩; have n0_ := Aside0.mk (Kd.R_below (by (with_reducible repeat (first | apply Kd.R_alloc | apply Kd.R_drewN | apply Kd.R_drew)); exact HO_0.out) hb); have n1_ := Aside0.mk (Kd.R_below (by (with_reducible repeat (first | apply Kd.R_alloc | apply Kd.R_drewN | apply Kd.R_drew)); exact HO_10.out) hb); have n2_ := Aside0.mk (blk_below (g := gb193) (o := .cells #[.int .u64 x194000_2, .int .u64 x194001_2, .string x194002_2] 24 (0, 0)) (by (with_reducible repeat (first | refine blk_drewN ?_ _ | refine blk_drew ?_ | refine blk_alloc ?_ _)); exact BK193.out) hb); have n3_ := Aside0.mk (below_step (by repeat (first | (with_reducible first | exact HB.out | apply below_alloc | apply pw_below_drewN | apply below_drew1 | refine below_set ?_ GE193.out) | exact HB.out)) hb); clear HO_0; clear HO_10; clear BK193; clear HB; have HO_0 := n0_; have HO_10 := n1_; have BK193 := n2_; have HB := n3_; clear n0_ n1_ n2_ n3_; (try clear hb); (try clear hb2); (try clear hk); (try clear hi)))
                          go_ret
                          exact ⟨by first | rfl | (simp [errW_none, errW_some] <;> rfl) | (simp only [← hji5]; first | rfl | (simp [errW_none, errW_some] <;> rfl)) | (simp [*, errW_none, errW_some] <;> rfl), by repeat (first | (with_reducible first | exact HB.out | apply below_alloc | apply pw_below_drewN | apply below_drew1 | refine below_set ?_ GE193.out) | exact HB.out)⟩
                      · replace c36 := Bool.eq_false_iff.mpr c36
                        subst c36
                        have H1 : (some false) = some r := by rw [if_neg (show ¬ (false = true) by decide)] at H; exact H
                        clear H
                        have H := H1
                        clear H1
                        obtain rfl := Option.some.inj H
                        obtain ⟨Ao45, co45, eo45⟩ := Kd.R_slice HO_10.out
                        subst eo45
                        go_wp2_with (first | ((with_reducible refine gate_callee (f := 19) rfl ?_); refine goesL_ (some 55) rfl rfl Try.func19 (by kernel_rfl) rfl #[.slice Ao45 x10_2.length co45] rfl (by (try simp only [List.map_toArray, List.map_cons, List.map_nil]); first | done | rfl | (simp only [List.length_drop, List.length_take]; rfl)) ?_; (with_reducible refine (G.ballot_Decided.calls _ _ x10_2 t201 t202 t203 _ ?side1 ?side2 A35.out).mono ?_); (case side1 => repeat (first | exact (Kd.R_reads' HO_10.out).2.2 | (with_reducible refine Kd.C_alloc ?_ _) | (with_reducible refine Kd.C_drewN ?_ _) | (with_reducible refine Kd.C_drew ?_))); (case side2 => exact (Kd.R_reads' HO_10.out).2.1); rintro e w46 ⟨rfl, hb⟩; refine ⟨_, rfl, ?_⟩; have n0_ := Aside0.mk (Kd.R_below (by (with_reducible repeat (first | apply Kd.R_alloc | apply Kd.R_drewN | apply Kd.R_drew)); exact HO_0.out) hb); have n1_ := Aside0.mk (Kd.R_below (by (with_reducible repeat (first | apply Kd.R_alloc | apply Kd.R_drewN | apply Kd.R_drew)); exact HO_10.out) hb); have n2_ := Aside0.mk (blk_below (g := gb193) (o := .cells #[.int .u64 x194000_2, .int .u64 x194001_2, .string x194002_2] 24 (0, 0)) (by (with_reducible repeat (first | refine blk_drewN ?_ _ | refine blk_drew ?_ | refine blk_alloc ?_ _)); exact BK193.out) hb); have n3_ := Aside0.mk (below_step (by repeat (first | (with_reducible first | exact HB.out | apply below_alloc | apply pw_below_drewN | apply below_drew1 | refine below_set ?_ GE193.out) | exact HB.out)) hb); clear HO_0; clear HO_10; clear BK193; clear HB; have HO_0 := n0_; have HO_10 := n1_; have BK193 := n2_; have HB := n3_; clear n0_ n1_ n2_ n3_; (try clear hb); (try clear hb2); (try clear hk); (try clear hi)))
                        go_ret
                        exact ⟨by first | rfl | (simp [errW_none, errW_some] <;> rfl) | (simp only [← hji5]; first | rfl | (simp [errW_none, errW_some] <;> rfl)) | (simp [*, errW_none, errW_some] <;> rfl), by repeat (first | (with_reducible first | exact HB.out | apply below_alloc | apply pw_below_drewN | apply below_drew1 | refine below_set ?_ GE193.out) | exact HB.out)⟩
              · rw [if_neg c23] at H
                exact absurd H (by simp)
            · rw [if_neg c22] at H
              exact absurd H (by simp)
    · rw [if_neg c7] at H
      exact absurd H (by simp)
  · rw [if_neg c6] at H
    exact absurd H (by simp)

/-! ### ballot_Next: function 20 -/
def ballot_Next.f (a0 : Int) (a1 : Int) : Option (Int × Int) := if a1 < 0 then (some (0, 2)) else (if a1 ≥ 16 then (some (0, 2)) else (if a0 > 1152921504606846976 then (some (0, 2)) else (some (IntKind.u64.wrap ((IntKind.u64.wrap (((IntKind.u64.wrap ((IntKind.u64.wrap (a0 + 16)) - (IntKind.u64.wrap (a1)))) / 16) * 16)) + (IntKind.u64.wrap (a1))), 0))))
set_option maxHeartbeats 8000000 in
set_option maxRecDepth 100000 in
theorem ballot_Next.calls (a0 : Int) (a1 : Int) (r1 : Int) (r2 : Int) (w : World) (h : ballot_Next.f a0 a1 = some (r1, r2)) :
    Calls Try.prog 20 #[.int .u64 a0, .int .i64 a1] w fun e w' => e = .returned (.tuple #[.int .u64 r1, .int .i64 r2]) ∧ Drawn0 w w' := by
  have H : (if a1 < 0 then (some (0, 2)) else (if a1 ≥ 16 then (some (0, 2)) else (if a0 > 1152921504606846976 then (some (0, 2)) else (some (IntKind.u64.wrap ((IntKind.u64.wrap (((IntKind.u64.wrap ((IntKind.u64.wrap (a0 + 16)) - (IntKind.u64.wrap (a1)))) / 16) * 16)) + (IntKind.u64.wrap (a1))), 0))))) = some (r1, r2) := h
  clear h
  by_cases c3 : a1 < 0
  · rw [if_pos c3] at H
    have c3b0 : decide (a1 < 0) = true := decide_eq_true c3
    clear c3
    simp only [Option.some.injEq, Prod.mk.injEq] at H
    obtain ⟨rfl, rfl⟩ := H
    go_enter Try.func20, Try.ntmps20
    go_wp2
    go_ret2
    exact ⟨by first | rfl | (simp; done) | (simp [*]; done), by repeat (first | exact Drawn0.refl _ | apply Drawn0.step)⟩
  · rw [if_neg c3] at H
    have c3b0 : decide (a1 < 0) = false := decide_eq_false c3
    clear c3
    by_cases c4 : a1 ≥ 16
    · rw [if_pos c4] at H
      have c4b0 : decide (16 ≤ a1) = true := decide_eq_true c4
      clear c4
      simp only [Option.some.injEq, Prod.mk.injEq] at H
      obtain ⟨rfl, rfl⟩ := H
      go_enter Try.func20, Try.ntmps20
      go_wp2
      go_ret2
      exact ⟨by first | rfl | (simp; done) | (simp [*]; done), by repeat (first | exact Drawn0.refl _ | apply Drawn0.step)⟩
    · rw [if_neg c4] at H
      have c4b0 : decide (16 ≤ a1) = false := decide_eq_false c4
      clear c4
      by_cases c5 : a0 > 1152921504606846976
      · rw [if_pos c5] at H
        have c5b0 : decide (1152921504606846976 < a0) = true := decide_eq_true c5
        clear c5
        simp only [Option.some.injEq, Prod.mk.injEq] at H
        obtain ⟨rfl, rfl⟩ := H
        go_enter Try.func20, Try.ntmps20
        go_wp2
        go_ret2
        exact ⟨by first | rfl | (simp; done) | (simp [*]; done), by repeat (first | exact Drawn0.refl _ | apply Drawn0.step)⟩
      · rw [if_neg c5] at H
        have c5b0 : decide (1152921504606846976 < a0) = false := decide_eq_false c5
        clear c5
        simp only [Option.some.injEq, Prod.mk.injEq] at H
        obtain ⟨rfl, rfl⟩ := H
        go_enter Try.func20, Try.ntmps20
        go_wp2
        go_ret2
        exact ⟨by first | rfl | (simp; done) | (simp [*]; done), by repeat (first | exact Drawn0.refl _ | apply Drawn0.step)⟩

end Go.Proofs.Ytnllilpbgenjbaa.P
