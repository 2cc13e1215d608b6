/- What is on its way: Hurt. -/
import Derived.Test.YthmeakkpmielmaaFliB
namespace Go.Proofs.Ythmeakkpmielmaa.G
open Go.RowKit Go.Proofs.YthmeakkpmielmaaW.PrintWords Go.Proofs.YthmeakkpmielmaaW.PrintMore Go.Proofs.Ythmeakkpmielmaa.P
set_option linter.unusedVariables false
set_option linter.unusedSimpArgs false
attribute [local go_sem] Oper.semAt_some

def hurtF (s : Fl) (at_ bit mask : Int) : Fl × Int :=
  if h : 0 ≤ at_ ∧ at_ < s.l.length then
    (if (changeS (s.l[at_.toNat]).f2 bit mask).2 = 0 then (⟨s.n, s.l.set at_.toNat ⟨(s.l[at_.toNat]).f0, (s.l[at_.toNat]).f1, (changeS (s.l[at_.toNat]).f2 bit mask).1⟩⟩, 0) else (s, (changeS (s.l[at_.toNat]).f2 bit mask).2)) else (s, 2)
theorem hurtF_in (s : Fl) (k : Nat) (bit mask : Int) (h : k < s.l.length) : hurtF s k bit mask =
    (if (changeS s.l[k].f2 bit mask).2 = 0 then (⟨s.n, s.l.set k ⟨s.l[k].f0, s.l[k].f1, (changeS s.l[k].f2 bit mask).1⟩⟩, 0) else (s, (changeS s.l[k].f2 bit mask).2)) := by
  unfold hurtF
  rw [dif_pos ⟨by omega, by omega⟩]
  rfl
theorem hurtF_out (s : Fl) (at_ bit mask : Int) (h : ¬ (0 ≤ at_ ∧ at_ < s.l.length)) : hurtF s at_ bit mask = (s, 2) := dif_neg h
set_option maxRecDepth 100000 in
set_option maxHeartbeats 4000000 in
theorem Hurt.is (g : Nat) (s : Fl) (at_ bit mask : Int) (w : World) (h : FlS w g s) (hl : s.l.length ≤ 1000) (hz : ∀ x ∈ s.l, x.f2.size ≤ 1000000) (hm : 0 ≤ mask ∧ mask < 4294967296) :
    Calls Try.prog 20 #[.pointer (some ⟨g, 0, none⟩), .int .i64 at_, .int .i64 bit, .int .u32 mask] w fun e w' => e = .returned (.int .i64 (hurtF s at_ bit mask).2) ∧ FlS w' g (hurtF s at_ bit mask).1 ∧ w.grownBy w' (some g) := by
  by_cases ho : 0 ≤ at_ ∧ at_ < s.l.length
  · obtain ⟨k, rfl⟩ := Int.eq_ofNat_of_zero_le ho.1
    have hk : k < s.l.length := by omega
    have hc : chk s k = 0 := by unfold chk; rw [if_neg (by omega)]
    have hck := check.is g s k w h
    rw [hc] at hck
    rw [hurtF_in s k bit mask hk]
    have h0 := h
    obtain ⟨v, h1, hR⟩ := h
    obtain ⟨A, c, rfl, h2, h4⟩ := Kd.R_reads hR
    have d1 : w.cell? ⟨g, 1, none⟩ = some (.slice A s.l.length c) := h1.cell 1
    obtain ⟨ad, hAd, e0, e1, e2⟩ := at_T35 h4 (k : Int) (by omega) (by omega)
    rw [rd_get_35 s.l k hk] at e0 e1 e2
    simp only [Int.toNat_natCast] at e0 e1 e2
    subst hAd
    have hsz := hz _ (List.getElem_mem hk)
    obtain ⟨x, hx⟩ : ∃ x, s.l[k] = x := ⟨_, rfl⟩
    rw [hx] at e0 e1 e2 hsz ⊢
    obtain ⟨t, er, hch⟩ : ∃ t er, changeS x.f2 bit mask = (t, er) := ⟨_, _, rfl⟩
    have HCH := Lib.hid (fun w => crc_Change.calls x.f2 bit mask t er w (by unfold crc_Change.f; rw [if_pos ⟨by omega, hm.1, hm.2⟩, hch]))
    rw [hch]
    have HCK := Lib.hid hck; clear hck
    have HC := Lib.hid hc; clear hc
    have HX := Lib.hid hx; clear hx
    have HH := Lib.hid hch; clear hch
    by_cases her : er = 0
    · subst her
      rw [if_pos rfl]
      go_enter Try.func20, Try.ntmps20
      go_wp2_with (fail)
      refine HCK.out.mono ?_
      rintro e w1 ⟨rfl, rfl⟩
      go_wp2_with (fail)
      refine (HCH.out _).mono ?_
      rintro e w2 ⟨rfl, hb2⟩
      have g2 := h1.callee hb2
      have m2 : w2.cell? ⟨g, 1, none⟩ = some (.slice (some ad) s.l.length c) := g2.cell 1
      have hC2 := Kd.C_below h4 hb2
      go_wp2_with (fail)
      refine (Clone.is (some ad) c s.l w2 hC2 (by omega)).mono ?_
      rintro e w3 ⟨v3, rfl, hR3, hb3⟩
      have g3 := g2.callee hb3
      obtain ⟨a3, c3, rfl, hba, hla, cells3, hh3⟩ := Kd.R_form hR3 (by omega)
      have m3 : w3.cell? ⟨g, 1, none⟩ = some (.slice (some ad) s.l.length c) := g3.cell 1
      have f3 := g3.frozen 1
      have hR4 := Kd.R_set hR3 g3 (by rintro q (_ | ⟨_, ⟨⟩⟩); decide) 1 (.slice (some ⟨a3, 0, none⟩) s.l.length c3)
      have g4 := g3.set_ 1 (.slice (some ⟨a3, 0, none⟩) s.l.length c3)
      obtain ⟨ce, hcl, hM, hcc, hfz⟩ := Kd.R_elem hR4 z35 (k : Int) (by omega) (by omega)
      obtain rfl := k35_open (Kd.K_of_M _ hM)
      rw [show s.l.getD ((k : Int)).toNat z35 = x from by rw [Int.toNat_natCast, List.getD_eq_getElem?_getD, List.getElem?_eq_getElem hk]; exact HX.out] at hcc hM
      have n2 : (w3.setCell ⟨g, 1, none⟩ (.slice (some ⟨a3, 0, none⟩) s.l.length c3)).cell? ⟨a3, k * 3 + 2, none⟩ = some (.string x.f2) := hcc 2 _ rfl
      have z2 : (w3.setCell ⟨g, 1, none⟩ (.slice (some ⟨a3, 0, none⟩) s.l.length c3)).frozen? ⟨a3, k * 3 + 2, none⟩ = false := hfz 2
      have hseg := Kd.R_seg hR4 (k : Int) (by omega) (by omega) (c := [.int .u32 x.f0, .int .i64 x.f1, .string x.f2]) rfl hcc (j := 2) (seg := [.string t]) (by show 2 + 1 ≤ 3; omega) (x' := ⟨x.f0, x.f1, t⟩) (okp := fun _ => False) (k35_mkM _ _ _ ⟨x.f0, x.f1, t⟩) (fun k hk => hk.elim)
      have hR5 : Kd.R k35 35 ((w3.setCell ⟨g, 1, none⟩ (.slice (some ⟨a3, 0, none⟩) s.l.length c3)).setCell ⟨a3, k * 3 + 2, none⟩ (.string t)) _ _ _ (s.l.set k ⟨x.f0, x.f1, t⟩) := hseg.1
      have hgne : a3 ≠ g := by
        have := h0.lt
        have := hb2.size
        omega
      have hbb : Below w.heap.size w w3 := hb2.trans (hb3.mono hb2.size)
      have hG5 : w.grownBy ((w3.setCell ⟨g, 1, none⟩ (.slice (some ⟨a3, 0, none⟩) s.l.length c3)).setCell ⟨a3, k * 3 + 2, none⟩ (.string t)) (some g) :=
        grown_new (grown_trans (grown_of hbb _) (grown_set w3 ⟨g, 1, none⟩ _)) ⟨a3, k * 3 + 2, none⟩ (by have := hb2.size; show _ ≤ a3; omega) _
      go_wp2
      go_ret
      exact ⟨rfl, ⟨_, g4.far (p := ⟨a3, k * 3 + 2, none⟩) (Ne.symm hgne) (.string t), RowN.of hR5⟩, hG5⟩
    · rw [if_neg her]
      have hd : (er == 0) = false := by simpa using her
      have HER := Lib.hid her; clear her
      go_enter Try.func20, Try.ntmps20
      go_wp2_with (fail)
      refine HCK.out.mono ?_
      rintro e w1 ⟨rfl, rfl⟩
      go_wp2_with (fail)
      refine (HCH.out _).mono ?_
      rintro e w2 ⟨rfl, hb2⟩
      go_wp2
      go_ret
      exact ⟨rfl, h0.below hb2, grown_of hb2 _⟩
  · have hc : chk s at_ = 2 := by unfold chk; rw [if_pos (by omega)]
    have hck := check.is g s at_ w h
    rw [hc] at hck
    rw [hurtF_out s at_ bit mask ho]
    have HK := Lib.hid hck; clear hck
    have HC := Lib.hid hc; clear hc
    have HO := Lib.hid ho; clear ho
    go_enter Try.func20, Try.ntmps20
    go_wp2_with (go_at_call 26; (refine HK.out.mono ?_); rintro e w1 ⟨rfl, rfl⟩)
    go_ret
    exact ⟨rfl, h, grown_refl _ _⟩
end Go.Proofs.Ythmeakkpmielmaa.G
