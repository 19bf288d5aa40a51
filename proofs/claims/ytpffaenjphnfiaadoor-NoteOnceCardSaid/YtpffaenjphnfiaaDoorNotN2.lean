/- A note out of bytes: the other forms. -/
import Derived.Test.YtpffaenjphnfiaaDoorNoteN
namespace Go.Proofs.YtpffaenjphnfiaaDoor
open Go.RowKit
attribute [local go_sem] str_size str_toList str_get

set_option maxRecDepth 100000 in
set_option maxHeartbeats 4000000 in
theorem note_peer (g : Nat) (s : RS) (w : World) (I : Nat → Prop) (hI : ∀ k, I k → k < w.heap.size) (h : RdrAt w I g s) (hk : isKind (rKind s).1 = true) (hf : formOf (rKind s).1 = ⟨true, false, false, false, false, false, false⟩) :
    Calls Tryd.prog 9 #[.agg #[.pointer (some ⟨g, 0, none⟩)]] w (RPost I g w (rNote s).2 (VNote w.heap.size (rNote s).1)) := by
  have hg := h.lt
  have hkl := rKind_lt s
  obtain ⟨q, hq⟩ : ∃ q, rNote s = q := ⟨_, rfl⟩
  rw [hq]
  have hforms := forms_any (rKind s).1
  rw [hk, hf] at hforms
  have hct : ∀ w, RdrAt w I g s → Calls Tryd.prog 15 #[.pointer (some ⟨g, 0, none⟩)] w (RPost I g w (rKind s).2 (fun v _ => v = .int .u8 ((rKind s).1 : Int))) := fun w h => byte_any g s w I h
  rw [show rNote s = rNote s from rfl] at hq
  unfold rNote at hq
  simp only [hk, hf, opt, if_true, Bool.false_eq_true, if_false] at hq
  generalize rKind s = ks at *
  obtain ⟨k, s1⟩ := ks
  have HQ := Lib.hid hq
  have HFo := Lib.hid hforms
  have HCT := Lib.hid hct
  clear hq hforms hct hk hf
  have hb0 := (Blk.new w 40 #[.pointer (some ⟨g, 0, none⟩)]).alloc (.cells #[.int .i64 0, .int .i64 0, .int .i64 0, .int .i64 0, .string ⟨#[]⟩, .string ⟨#[]⟩, .string ⟨#[]⟩, .int .i64 0, .int .i64 0, .string ⟨#[]⟩, .int .i64 0, .slice none 0 0, .int .i64 0, .int .u64 0] 30)
  have hR := Blk.new (w.alloc (.cells #[.pointer (some ⟨g, 0, none⟩)] 40)) 30 #[.int .i64 0, .int .i64 0, .int .i64 0, .int .i64 0, .string ⟨#[]⟩, .string ⟨#[]⟩, .string ⟨#[]⟩, .int .i64 0, .int .i64 0, .string ⟨#[]⟩, .int .i64 0, .slice none 0 0, .int .i64 0, .int .u64 0]
  rw [World.size_alloc] at hR
  have hr := h.upd (((Upd.refl none_ w).alloc (.cells #[.pointer (some ⟨g, 0, none⟩)] 40)).alloc (.cells #[.int .i64 0, .int .i64 0, .int .i64 0, .int .i64 0, .string ⟨#[]⟩, .string ⟨#[]⟩, .string ⟨#[]⟩, .int .i64 0, .int .i64 0, .string ⟨#[]⟩, .int .i64 0, .slice none 0 0, .int .i64 0, .int .u64 0] 30)) (fun h => h) (fun _ h => h.elim)
  have hU : Upd (· = g) w ((w.alloc (.cells #[.pointer (some ⟨g, 0, none⟩)] 40)).alloc (.cells #[.int .i64 0, .int .i64 0, .int .i64 0, .int .i64 0, .string ⟨#[]⟩, .string ⟨#[]⟩, .string ⟨#[]⟩, .int .i64 0, .int .i64 0, .string ⟨#[]⟩, .int .i64 0, .slice none 0 0, .int .i64 0, .int .u64 0] 30)) := ((Upd.refl _ w).alloc _).alloc _
  go_enter Tryd.func9, Tryd.ntmps9
  go_wp2_with fail
  refine (HCT.out _ hr).mono ?_
  rintro e w1 ⟨v, rfl, rfl, hr1, hu1⟩
  replace hb0 := hb0.upd hu1 (by omega)
  replace hR := hR.upd hu1 (by omega)
  replace hU := hU.trans hu1
  clear hr hu1 HCT
  have hk64 : -9223372036854775808 ≤ (k : Int) ∧ (k : Int) ≤ 9223372036854775807 := by omega
  go_wp2_with fail
  refine (HFo.out _).mono ?_
  rintro e w2 ⟨rfl, hu2⟩
  clear hk64 HFo
  have n1 := hR.lt
  have hX2 := (Blk.new w1 30 #[.int .i64 (k : Int), .int .i64 0, .int .i64 0, .int .i64 0, .string ⟨#[]⟩, .string ⟨#[]⟩, .string ⟨#[]⟩, .int .i64 0, .int .i64 0, .string ⟨#[]⟩, .int .i64 0, .slice none 0 0, .int .i64 0, .int .u64 0]).upd hu2 (fun h => h)
  have n2 := hX2.lt
  have hX := hX2.alloc (.cells (fmA ⟨true, false, false, false, false, false, false⟩) 56)
  replace hb0 := ((hb0.alloc _).upd hu2 (fun h => h)).alloc (.cells (fmA ⟨true, false, false, false, false, false, false⟩) 56)
  replace hR := ((hR.alloc _).upd hu2 (fun h => h)).alloc (.cells (fmA ⟨true, false, false, false, false, false, false⟩) 56)
  have hF := Blk.new w2 56 (fmA ⟨true, false, false, false, false, false, false⟩)
  replace hr1 := (hr1.upd (((Upd.refl none_ w1).alloc _).trans hu2) (fun h => h) (fun _ h => h.elim)).upd ((Upd.refl none_ w2).alloc (.cells (fmA ⟨true, false, false, false, false, false, false⟩) 56)) (fun h => h) (fun _ h => h.elim)
  replace hU := ((hU.alloc _).trans (hu2.mono (fun _ h => h.elim))).alloc (.cells (fmA ⟨true, false, false, false, false, false, false⟩) 56)
  clear hX2 hu2 h hkl
  go_upto_region 3 with fail
  refine wp_abs (fun w3 hw3 => ?_)
  rw [← hw3] at hb0 hR hX hF hr1 hU
  clear hw3
  generalize hXn : w1.heap.size = X at *
  generalize hYn : w2.heap.size = Y at *
  clear hXn hYn
  have n3 : w.heap.size ≠ X := by omega
  have n4 : w.heap.size ≠ Y := by omega
  have n5 : w.heap.size + 1 ≠ X := by omega
  have n6 : w.heap.size + 1 ≠ Y := by omega
  have n7 : X ≠ Y := by omega
  have n8 : g ≠ X := by omega
  have n9 : g ≠ w.heap.size + 1 := by omega
  have n12 : g ≠ Y := by omega
  have n10 : w.heap.size ≤ X := by omega
  have n11 : w.heap.size ≤ w.heap.size + 1 := by omega
  have i1 : ¬ I X := fun h => by have := hI _ h; omega
  have i2 : ¬ I (w.heap.size + 1) := fun h => by have := hI _ h; omega
  have i3 : ∀ k, k = g → ¬ I k → ¬ I k := fun _ _ h => h
  clear n1 n2
  have y0 := hb0.cell 0
  have f0 := hF.cell 0
  have f1 := hF.cell 1
  have f2 := hF.cell 2
  have f3 := hF.cell 3
  have f4 := hF.cell 4
  have f5 := hF.cell 5
  have f6 := hF.cell 6
  simp at y0 f0 f1 f2 f3 f4 f5 f6
  obtain ⟨p, hp⟩ : ∃ p, rPeer s1 = p := ⟨_, rfl⟩
  have HQ2 := HQ.out
  rw [hp] at HQ2
  have hsz := hU.size
  have hI2 : ∀ W : World, w.heap.size ≤ W.heap.size → ∀ k, I k → k < W.heap.size := fun W h k hk => Nat.lt_of_lt_of_le (hI k hk) h
  replace hI2 := hI2 _ hsz
  have hct : ∀ W, RdrAt W I g s1 → Calls Tryd.prog 15 #[.pointer (some ⟨g, 0, none⟩)] W (RPost I g W p.2 (fun v _ => ∃ m : Nat, p.1 = m ∧ m < 256 ∧ v = .int .u8 (m : Int))) := by
    intro W h
    refine (byte_any g s1 W I h).mono ?_
    rw [← hp]
    exact fun e w hh => by
      obtain ⟨v, e1, e2, e3, e4⟩ := hh
      exact ⟨v, e1, ⟨_, rfl, rKind_lt s1, e2⟩, e3, e4⟩
  have HCT := Lib.hid hct
  clear hct
  clear HQ
  have HQ := Lib.hid HQ2
  clear HQ2
  obtain ⟨pe, s_pe⟩ := p
  go_wp2_with fail
  refine (HCT.out _ hr1).mono ?_
  rintro e wn ⟨v, rfl, ⟨m, hm, hm2, rfl⟩, hr2, hu⟩
  change pe = m at hm
  subst hm
  have hm3 : -9223372036854775808 ≤ (m : Int) ∧ (m : Int) ≤ 9223372036854775807 := by omega
  clear HCT hp hI2 hr1
  clear y0 f0 f1 f2 f3 f4 f5 f6
  replace hb0 := hb0.upd hu (by omega)
  replace hR := hR.upd hu (by omega)
  replace hX := hX.upd hu (by omega)
  replace hF := hF.upd hu (by omega)
  replace hU := hU.trans hu
  clear hu
  have x1 := hX.cell 1
  have fx1 := hX.frozen 1
  simp at x1
  go_upto_region 7 with fail
  clear hm2 hm3
  replace hX := (hX.set_ 1 (.int .i64 (m : Int)))
  replace hb0 := (hb0.far (p := ⟨X, 1, none⟩) n3 (.int .i64 (m : Int)))
  replace hR := (hR.far (p := ⟨X, 1, none⟩) n5 (.int .i64 (m : Int)))
  replace hF := (hF.far (p := ⟨X, 1, none⟩) (Ne.symm n7) (.int .i64 (m : Int)))
  have hr1 := (hr2.far (i := 1) n8 i1 (.int .i64 (m : Int)))
  replace hU := (hU.new1 (i := 1) n10 (.int .i64 (m : Int)))
  clear hr2 x1 fx1
  simp at hX
  refine wp_abs (fun wx hwx => ?_)
  rw [← hwx] at hb0 hR hX hF hr1 hU
  clear hwx
  have y0 := hb0.cell 0
  have f0 := hF.cell 0
  have f1 := hF.cell 1
  have f2 := hF.cell 2
  have f3 := hF.cell 3
  have f4 := hF.cell 4
  have f5 := hF.cell 5
  have f6 := hF.cell 6
  simp at y0 f0 f1 f2 f3 f4 f5 f6
  go_upto_region 19 with fail
  clear y0 f0 f1 f2 f3 f4 f5 f6
  have x0 := hX.cell 0
  have x1 := hX.cell 1
  have x2 := hX.cell 2
  have x3 := hX.cell 3
  have x4 := hX.cell 4
  have x5 := hX.cell 5
  have x6 := hX.cell 6
  have x7 := hX.cell 7
  have x8 := hX.cell 8
  have x9 := hX.cell 9
  have x10 := hX.cell 10
  have x11 := hX.cell 11
  have x12 := hX.cell 12
  have x13 := hX.cell 13
  have z0 := hR.cell 0
  have z1 := hR.cell 1
  have z2 := hR.cell 2
  have z3 := hR.cell 3
  have z4 := hR.cell 4
  have z5 := hR.cell 5
  have z6 := hR.cell 6
  have z7 := hR.cell 7
  have z8 := hR.cell 8
  have z9 := hR.cell 9
  have z10 := hR.cell 10
  have z11 := hR.cell 11
  have z12 := hR.cell 12
  have z13 := hR.cell 13
  have fz0 := hR.frozen 0
  have fz1 := hR.frozen 1
  have fz2 := hR.frozen 2
  have fz3 := hR.frozen 3
  have fz4 := hR.frozen 4
  have fz5 := hR.frozen 5
  have fz6 := hR.frozen 6
  have fz7 := hR.frozen 7
  have fz8 := hR.frozen 8
  have fz9 := hR.frozen 9
  have fz10 := hR.frozen 10
  have fz11 := hR.frozen 11
  have fz12 := hR.frozen 12
  have fz13 := hR.frozen 13
  simp at x0 z0 x1 z1 x2 z2 x3 z3 x4 z4 x5 z5 x6 z6 x7 z7 x8 z8 x9 z9 x10 z10 x11 z11 x12 z12 x13 z13
  go_wp2
  clear x0 z0 fz0 x1 z1 fz1 x2 z2 fz2 x3 z3 fz3 x4 z4 fz4 x5 z5 fz5 x6 z6 fz6 x7 z7 fz7 x8 z8 fz8 x9 z9 fz9 x10 z10 fz10 x11 z11 fz11 x12 z12 fz12 x13 z13 fz13
  have hR2 := ((((((((((((((hR.set_ 0 (.int .i64 (k : Int))).set_ 1 (.int .i64 (m : Int))).set_ 2 (.int .i64 0)).set_ 3 (.int .i64 0)).set_ 4 (.string ⟨#[]⟩)).set_ 5 (.string ⟨#[]⟩)).set_ 6 (.string ⟨#[]⟩)).set_ 7 (.int .i64 0)).set_ 8 (.int .i64 0)).set_ 9 (.string ⟨#[]⟩)).set_ 10 (.int .i64 0)).set_ 11 (.slice none 0 0)).set_ 12 (.int .i64 0)).set_ 13 (.int .u64 0))
  have hr2 := ((((((((((((((hr1.far (i := 0) n9 i2 (.int .i64 (k : Int))).far (i := 1) n9 i2 (.int .i64 (m : Int))).far (i := 2) n9 i2 (.int .i64 0)).far (i := 3) n9 i2 (.int .i64 0)).far (i := 4) n9 i2 (.string ⟨#[]⟩)).far (i := 5) n9 i2 (.string ⟨#[]⟩)).far (i := 6) n9 i2 (.string ⟨#[]⟩)).far (i := 7) n9 i2 (.int .i64 0)).far (i := 8) n9 i2 (.int .i64 0)).far (i := 9) n9 i2 (.string ⟨#[]⟩)).far (i := 10) n9 i2 (.int .i64 0)).far (i := 11) n9 i2 (.slice none 0 0)).far (i := 12) n9 i2 (.int .i64 0)).far (i := 13) n9 i2 (.int .u64 0))
  have hU2 := ((((((((((((((hU.new1 (i := 0) n11 (.int .i64 (k : Int))).new1 (i := 1) n11 (.int .i64 (m : Int))).new1 (i := 2) n11 (.int .i64 0)).new1 (i := 3) n11 (.int .i64 0)).new1 (i := 4) n11 (.string ⟨#[]⟩)).new1 (i := 5) n11 (.string ⟨#[]⟩)).new1 (i := 6) n11 (.string ⟨#[]⟩)).new1 (i := 7) n11 (.int .i64 0)).new1 (i := 8) n11 (.int .i64 0)).new1 (i := 9) n11 (.string ⟨#[]⟩)).new1 (i := 10) n11 (.int .i64 0)).new1 (i := 11) n11 (.slice none 0 0)).new1 (i := 12) n11 (.int .i64 0)).new1 (i := 13) n11 (.int .u64 0))
  simp at hR2
  refine bp_abs (fun wx hwx => ?_)
  rw [← hwx] at hR2 hr2 hU2
  clear hwx
  have z0 := hR2.cell 0
  have z1 := hR2.cell 1
  have z2 := hR2.cell 2
  have z3 := hR2.cell 3
  have z4 := hR2.cell 4
  have z5 := hR2.cell 5
  have z6 := hR2.cell 6
  have z7 := hR2.cell 7
  have z8 := hR2.cell 8
  have z9 := hR2.cell 9
  have z10 := hR2.cell 10
  have z11 := hR2.cell 11
  have z12 := hR2.cell 12
  have z13 := hR2.cell 13
  simp at z0 z1 z2 z3 z4 z5 z6 z7 z8 z9 z10 z11 z12 z13
  have hq := HQ.out
  subst hq
  clear HQ
  refine bodyPost_ret (v := .agg (ntA ⟨k, m, 0, trZero, [], 0, [], 0, 0⟩ none 0)) (by simp [results, Tryd.results9, go_sem, z0, z1, z2, z3, z4, z5, z6, z7, z8, z9, z10, z11, z12, z13, trZero]) rfl ?_
  exact ⟨_, rfl, ⟨_, _, rfl, Rd.nil_⟩, hr2, hU2⟩

set_option maxRecDepth 100000 in
set_option maxHeartbeats 4000000 in
theorem note_leg (g : Nat) (s : RS) (w : World) (I : Nat → Prop) (hI : ∀ k, I k → k < w.heap.size) (h : RdrAt w I g s) (hk : isKind (rKind s).1 = true) (hf : formOf (rKind s).1 = ⟨true, true, true, false, false, false, false⟩) :
    Calls Tryd.prog 9 #[.agg #[.pointer (some ⟨g, 0, none⟩)]] w (RPost I g w (rNote s).2 (VNote w.heap.size (rNote s).1)) := by
  have hg := h.lt
  have hkl := rKind_lt s
  obtain ⟨q, hq⟩ : ∃ q, rNote s = q := ⟨_, rfl⟩
  rw [hq]
  have hforms := forms_any (rKind s).1
  rw [hk, hf] at hforms
  have hct : ∀ w, RdrAt w I g s → Calls Tryd.prog 15 #[.pointer (some ⟨g, 0, none⟩)] w (RPost I g w (rKind s).2 (fun v _ => v = .int .u8 ((rKind s).1 : Int))) := fun w h => byte_any g s w I h
  rw [show rNote s = rNote s from rfl] at hq
  unfold rNote at hq
  simp only [hk, hf, opt, if_true, Bool.false_eq_true, if_false] at hq
  generalize rKind s = ks at *
  obtain ⟨k, s1⟩ := ks
  have HQ := Lib.hid hq
  have HFo := Lib.hid hforms
  have HCT := Lib.hid hct
  clear hq hforms hct hk hf
  have hb0 := (Blk.new w 40 #[.pointer (some ⟨g, 0, none⟩)]).alloc (.cells #[.int .i64 0, .int .i64 0, .int .i64 0, .int .i64 0, .string ⟨#[]⟩, .string ⟨#[]⟩, .string ⟨#[]⟩, .int .i64 0, .int .i64 0, .string ⟨#[]⟩, .int .i64 0, .slice none 0 0, .int .i64 0, .int .u64 0] 30)
  have hR := Blk.new (w.alloc (.cells #[.pointer (some ⟨g, 0, none⟩)] 40)) 30 #[.int .i64 0, .int .i64 0, .int .i64 0, .int .i64 0, .string ⟨#[]⟩, .string ⟨#[]⟩, .string ⟨#[]⟩, .int .i64 0, .int .i64 0, .string ⟨#[]⟩, .int .i64 0, .slice none 0 0, .int .i64 0, .int .u64 0]
  rw [World.size_alloc] at hR
  have hr := h.upd (((Upd.refl none_ w).alloc (.cells #[.pointer (some ⟨g, 0, none⟩)] 40)).alloc (.cells #[.int .i64 0, .int .i64 0, .int .i64 0, .int .i64 0, .string ⟨#[]⟩, .string ⟨#[]⟩, .string ⟨#[]⟩, .int .i64 0, .int .i64 0, .string ⟨#[]⟩, .int .i64 0, .slice none 0 0, .int .i64 0, .int .u64 0] 30)) (fun h => h) (fun _ h => h.elim)
  have hU : Upd (· = g) w ((w.alloc (.cells #[.pointer (some ⟨g, 0, none⟩)] 40)).alloc (.cells #[.int .i64 0, .int .i64 0, .int .i64 0, .int .i64 0, .string ⟨#[]⟩, .string ⟨#[]⟩, .string ⟨#[]⟩, .int .i64 0, .int .i64 0, .string ⟨#[]⟩, .int .i64 0, .slice none 0 0, .int .i64 0, .int .u64 0] 30)) := ((Upd.refl _ w).alloc _).alloc _
  go_enter Tryd.func9, Tryd.ntmps9
  go_wp2_with fail
  refine (HCT.out _ hr).mono ?_
  rintro e w1 ⟨v, rfl, rfl, hr1, hu1⟩
  replace hb0 := hb0.upd hu1 (by omega)
  replace hR := hR.upd hu1 (by omega)
  replace hU := hU.trans hu1
  clear hr hu1 HCT
  have hk64 : -9223372036854775808 ≤ (k : Int) ∧ (k : Int) ≤ 9223372036854775807 := by omega
  go_wp2_with fail
  refine (HFo.out _).mono ?_
  rintro e w2 ⟨rfl, hu2⟩
  clear hk64 HFo
  have n1 := hR.lt
  have hX2 := (Blk.new w1 30 #[.int .i64 (k : Int), .int .i64 0, .int .i64 0, .int .i64 0, .string ⟨#[]⟩, .string ⟨#[]⟩, .string ⟨#[]⟩, .int .i64 0, .int .i64 0, .string ⟨#[]⟩, .int .i64 0, .slice none 0 0, .int .i64 0, .int .u64 0]).upd hu2 (fun h => h)
  have n2 := hX2.lt
  have hX := hX2.alloc (.cells (fmA ⟨true, true, true, false, false, false, false⟩) 56)
  replace hb0 := ((hb0.alloc _).upd hu2 (fun h => h)).alloc (.cells (fmA ⟨true, true, true, false, false, false, false⟩) 56)
  replace hR := ((hR.alloc _).upd hu2 (fun h => h)).alloc (.cells (fmA ⟨true, true, true, false, false, false, false⟩) 56)
  have hF := Blk.new w2 56 (fmA ⟨true, true, true, false, false, false, false⟩)
  replace hr1 := (hr1.upd (((Upd.refl none_ w1).alloc _).trans hu2) (fun h => h) (fun _ h => h.elim)).upd ((Upd.refl none_ w2).alloc (.cells (fmA ⟨true, true, true, false, false, false, false⟩) 56)) (fun h => h) (fun _ h => h.elim)
  replace hU := ((hU.alloc _).trans (hu2.mono (fun _ h => h.elim))).alloc (.cells (fmA ⟨true, true, true, false, false, false, false⟩) 56)
  clear hX2 hu2 h hkl
  go_upto_region 3 with fail
  refine wp_abs (fun w3 hw3 => ?_)
  rw [← hw3] at hb0 hR hX hF hr1 hU
  clear hw3
  generalize hXn : w1.heap.size = X at *
  generalize hYn : w2.heap.size = Y at *
  clear hXn hYn
  have n3 : w.heap.size ≠ X := by omega
  have n4 : w.heap.size ≠ Y := by omega
  have n5 : w.heap.size + 1 ≠ X := by omega
  have n6 : w.heap.size + 1 ≠ Y := by omega
  have n7 : X ≠ Y := by omega
  have n8 : g ≠ X := by omega
  have n9 : g ≠ w.heap.size + 1 := by omega
  have n12 : g ≠ Y := by omega
  have n10 : w.heap.size ≤ X := by omega
  have n11 : w.heap.size ≤ w.heap.size + 1 := by omega
  have i1 : ¬ I X := fun h => by have := hI _ h; omega
  have i2 : ¬ I (w.heap.size + 1) := fun h => by have := hI _ h; omega
  have i3 : ∀ k, k = g → ¬ I k → ¬ I k := fun _ _ h => h
  clear n1 n2
  have y0 := hb0.cell 0
  have f0 := hF.cell 0
  have f1 := hF.cell 1
  have f2 := hF.cell 2
  have f3 := hF.cell 3
  have f4 := hF.cell 4
  have f5 := hF.cell 5
  have f6 := hF.cell 6
  simp at y0 f0 f1 f2 f3 f4 f5 f6
  obtain ⟨p, hp⟩ : ∃ p, rPeer s1 = p := ⟨_, rfl⟩
  have HQ2 := HQ.out
  rw [hp] at HQ2
  have hsz := hU.size
  have hI2 : ∀ W : World, w.heap.size ≤ W.heap.size → ∀ k, I k → k < W.heap.size := fun W h k hk => Nat.lt_of_lt_of_le (hI k hk) h
  replace hI2 := hI2 _ hsz
  have hct : ∀ W, RdrAt W I g s1 → Calls Tryd.prog 15 #[.pointer (some ⟨g, 0, none⟩)] W (RPost I g W p.2 (fun v _ => ∃ m : Nat, p.1 = m ∧ m < 256 ∧ v = .int .u8 (m : Int))) := by
    intro W h
    refine (byte_any g s1 W I h).mono ?_
    rw [← hp]
    exact fun e w hh => by
      obtain ⟨v, e1, e2, e3, e4⟩ := hh
      exact ⟨v, e1, ⟨_, rfl, rKind_lt s1, e2⟩, e3, e4⟩
  have HCT := Lib.hid hct
  clear hct
  clear HQ
  have HQ := Lib.hid HQ2
  clear HQ2
  obtain ⟨pe, s_pe⟩ := p
  go_wp2_with fail
  refine (HCT.out _ hr1).mono ?_
  rintro e wn ⟨v, rfl, ⟨m, hm, hm2, rfl⟩, hr2, hu⟩
  change pe = m at hm
  subst hm
  have hm3 : -9223372036854775808 ≤ (m : Int) ∧ (m : Int) ≤ 9223372036854775807 := by omega
  clear HCT hp hI2 hr1
  clear y0 f0 f1 f2 f3 f4 f5 f6
  replace hb0 := hb0.upd hu (by omega)
  replace hR := hR.upd hu (by omega)
  replace hX := hX.upd hu (by omega)
  replace hF := hF.upd hu (by omega)
  replace hU := hU.trans hu
  clear hu
  have x1 := hX.cell 1
  have fx1 := hX.frozen 1
  simp at x1
  go_upto_region 7 with fail
  clear hm2 hm3
  replace hX := (hX.set_ 1 (.int .i64 (m : Int)))
  replace hb0 := (hb0.far (p := ⟨X, 1, none⟩) n3 (.int .i64 (m : Int)))
  replace hR := (hR.far (p := ⟨X, 1, none⟩) n5 (.int .i64 (m : Int)))
  replace hF := (hF.far (p := ⟨X, 1, none⟩) (Ne.symm n7) (.int .i64 (m : Int)))
  have hr1 := (hr2.far (i := 1) n8 i1 (.int .i64 (m : Int)))
  replace hU := (hU.new1 (i := 1) n10 (.int .i64 (m : Int)))
  clear hr2 x1 fx1
  simp at hX
  refine wp_abs (fun wx hwx => ?_)
  rw [← hwx] at hb0 hR hX hF hr1 hU
  clear hwx
  have y0 := hb0.cell 0
  have f0 := hF.cell 0
  have f1 := hF.cell 1
  have f2 := hF.cell 2
  have f3 := hF.cell 3
  have f4 := hF.cell 4
  have f5 := hF.cell 5
  have f6 := hF.cell 6
  simp at y0 f0 f1 f2 f3 f4 f5 f6
  obtain ⟨p, hp⟩ : ∃ p, rCount 9223372036854775807 s_pe = p := ⟨_, rfl⟩
  have HQ2 := HQ.out
  rw [hp] at HQ2
  have hsz := hU.size
  have hI2 : ∀ W : World, w.heap.size ≤ W.heap.size → ∀ k, I k → k < W.heap.size := fun W h k hk => Nat.lt_of_lt_of_le (hI k hk) h
  replace hI2 := hI2 _ hsz
  have hct := fun (W : World) (hI2 : ∀ k, I k → k < W.heap.size) (hr1 : RdrAt W I g s_pe) => count_any g s_pe 9223372036854775807 W I hr1
  rw [hp] at hct
  have HCT := Lib.hid hct
  clear hct
  clear HQ
  have HQ := Lib.hid HQ2
  clear HQ2
  obtain ⟨da, s_da⟩ := p
  go_wp2_with fail
  refine (HCT.out _ hI2 hr1).mono ?_
  rintro e wn ⟨v, rfl, rfl, hr2, hu⟩
  clear HCT hp hI2 hr1
  clear y0 f0 f1 f2 f3 f4 f5 f6
  replace hb0 := hb0.upd hu (by omega)
  replace hR := hR.upd hu (by omega)
  replace hX := hX.upd hu (by omega)
  replace hF := hF.upd hu (by omega)
  replace hU := hU.trans hu
  clear hu
  have x2 := hX.cell 2
  have fx2 := hX.frozen 2
  simp at x2
  go_upto_region 9 with fail
  replace hX := (hX.set_ 2 (.int .i64 da))
  replace hb0 := (hb0.far (p := ⟨X, 2, none⟩) n3 (.int .i64 da))
  replace hR := (hR.far (p := ⟨X, 2, none⟩) n5 (.int .i64 da))
  replace hF := (hF.far (p := ⟨X, 2, none⟩) (Ne.symm n7) (.int .i64 da))
  have hr1 := (hr2.far (i := 2) n8 i1 (.int .i64 da))
  replace hU := (hU.new1 (i := 2) n10 (.int .i64 da))
  clear hr2 x2 fx2
  simp at hX
  refine wp_abs (fun wx hwx => ?_)
  rw [← hwx] at hb0 hR hX hF hr1 hU
  clear hwx
  have y0 := hb0.cell 0
  have f0 := hF.cell 0
  have f1 := hF.cell 1
  have f2 := hF.cell 2
  have f3 := hF.cell 3
  have f4 := hF.cell 4
  have f5 := hF.cell 5
  have f6 := hF.cell 6
  simp at y0 f0 f1 f2 f3 f4 f5 f6
  obtain ⟨p, hp⟩ : ∃ p, rTrade s_da = p := ⟨_, rfl⟩
  have HQ2 := HQ.out
  rw [hp] at HQ2
  have hsz := hU.size
  have hI2 : ∀ W : World, w.heap.size ≤ W.heap.size → ∀ k, I k → k < W.heap.size := fun W h k hk => Nat.lt_of_lt_of_le (hI k hk) h
  replace hI2 := hI2 _ hsz
  have hct := fun (W : World) (hI2 : ∀ k, I k → k < W.heap.size) (hr1 : RdrAt W I g s_da) => get_any g s_da W I hI2 hr1
  rw [hp] at hct
  have HCT := Lib.hid hct
  clear hct
  clear HQ
  have HQ := Lib.hid HQ2
  clear HQ2
  obtain ⟨tr, s_tr⟩ := p
  go_wp2_with fail
  refine (HCT.out _ hI2 hr1).mono ?_
  rintro e wn ⟨v, rfl, rfl, hr2, hu⟩
  clear HCT hp hI2 hr1
  clear y0 f0 f1 f2 f3 f4 f5 f6
  replace hb0 := hb0.upd hu (by omega)
  replace hR := hR.upd hu (by omega)
  replace hX := hX.upd hu (by omega)
  replace hF := hF.upd hu (by omega)
  replace hU := hU.trans hu
  clear hu
  have x3 := hX.cell 3
  have fx3 := hX.frozen 3
  have x4 := hX.cell 4
  have fx4 := hX.frozen 4
  have x5 := hX.cell 5
  have fx5 := hX.frozen 5
  have x6 := hX.cell 6
  have fx6 := hX.frozen 6
  have x7 := hX.cell 7
  have fx7 := hX.frozen 7
  have x8 := hX.cell 8
  have fx8 := hX.frozen 8
  simp at x3 x4 x5 x6 x7 x8
  go_upto_region 11 with fail
  replace hX := ((((((hX.set_ 3 (.int .i64 tr.id)).set_ 4 (str tr.buyer)).set_ 5 (str tr.seller)).set_ 6 (str tr.isin)).set_ 7 (.int .i64 tr.qty)).set_ 8 (.int .i64 tr.price))
  replace hb0 := ((((((hb0.far (p := ⟨X, 3, none⟩) n3 (.int .i64 tr.id)).far (p := ⟨X, 4, none⟩) n3 (str tr.buyer)).far (p := ⟨X, 5, none⟩) n3 (str tr.seller)).far (p := ⟨X, 6, none⟩) n3 (str tr.isin)).far (p := ⟨X, 7, none⟩) n3 (.int .i64 tr.qty)).far (p := ⟨X, 8, none⟩) n3 (.int .i64 tr.price))
  replace hR := ((((((hR.far (p := ⟨X, 3, none⟩) n5 (.int .i64 tr.id)).far (p := ⟨X, 4, none⟩) n5 (str tr.buyer)).far (p := ⟨X, 5, none⟩) n5 (str tr.seller)).far (p := ⟨X, 6, none⟩) n5 (str tr.isin)).far (p := ⟨X, 7, none⟩) n5 (.int .i64 tr.qty)).far (p := ⟨X, 8, none⟩) n5 (.int .i64 tr.price))
  replace hF := ((((((hF.far (p := ⟨X, 3, none⟩) (Ne.symm n7) (.int .i64 tr.id)).far (p := ⟨X, 4, none⟩) (Ne.symm n7) (str tr.buyer)).far (p := ⟨X, 5, none⟩) (Ne.symm n7) (str tr.seller)).far (p := ⟨X, 6, none⟩) (Ne.symm n7) (str tr.isin)).far (p := ⟨X, 7, none⟩) (Ne.symm n7) (.int .i64 tr.qty)).far (p := ⟨X, 8, none⟩) (Ne.symm n7) (.int .i64 tr.price))
  have hr1 := ((((((hr2.far (i := 3) n8 i1 (.int .i64 tr.id)).far (i := 4) n8 i1 (str tr.buyer)).far (i := 5) n8 i1 (str tr.seller)).far (i := 6) n8 i1 (str tr.isin)).far (i := 7) n8 i1 (.int .i64 tr.qty)).far (i := 8) n8 i1 (.int .i64 tr.price))
  replace hU := ((((((hU.new1 (i := 3) n10 (.int .i64 tr.id)).new1 (i := 4) n10 (str tr.buyer)).new1 (i := 5) n10 (str tr.seller)).new1 (i := 6) n10 (str tr.isin)).new1 (i := 7) n10 (.int .i64 tr.qty)).new1 (i := 8) n10 (.int .i64 tr.price))
  clear hr2 x3 fx3 x4 fx4 x5 fx5 x6 fx6 x7 fx7 x8 fx8
  simp at hX
  refine wp_abs (fun wx hwx => ?_)
  rw [← hwx] at hb0 hR hX hF hr1 hU
  clear hwx
  have y0 := hb0.cell 0
  have f0 := hF.cell 0
  have f1 := hF.cell 1
  have f2 := hF.cell 2
  have f3 := hF.cell 3
  have f4 := hF.cell 4
  have f5 := hF.cell 5
  have f6 := hF.cell 6
  simp at y0 f0 f1 f2 f3 f4 f5 f6
  go_upto_region 19 with fail
  clear y0 f0 f1 f2 f3 f4 f5 f6
  have x0 := hX.cell 0
  have x1 := hX.cell 1
  have x2 := hX.cell 2
  have x3 := hX.cell 3
  have x4 := hX.cell 4
  have x5 := hX.cell 5
  have x6 := hX.cell 6
  have x7 := hX.cell 7
  have x8 := hX.cell 8
  have x9 := hX.cell 9
  have x10 := hX.cell 10
  have x11 := hX.cell 11
  have x12 := hX.cell 12
  have x13 := hX.cell 13
  have z0 := hR.cell 0
  have z1 := hR.cell 1
  have z2 := hR.cell 2
  have z3 := hR.cell 3
  have z4 := hR.cell 4
  have z5 := hR.cell 5
  have z6 := hR.cell 6
  have z7 := hR.cell 7
  have z8 := hR.cell 8
  have z9 := hR.cell 9
  have z10 := hR.cell 10
  have z11 := hR.cell 11
  have z12 := hR.cell 12
  have z13 := hR.cell 13
  have fz0 := hR.frozen 0
  have fz1 := hR.frozen 1
  have fz2 := hR.frozen 2
  have fz3 := hR.frozen 3
  have fz4 := hR.frozen 4
  have fz5 := hR.frozen 5
  have fz6 := hR.frozen 6
  have fz7 := hR.frozen 7
  have fz8 := hR.frozen 8
  have fz9 := hR.frozen 9
  have fz10 := hR.frozen 10
  have fz11 := hR.frozen 11
  have fz12 := hR.frozen 12
  have fz13 := hR.frozen 13
  simp at x0 z0 x1 z1 x2 z2 x3 z3 x4 z4 x5 z5 x6 z6 x7 z7 x8 z8 x9 z9 x10 z10 x11 z11 x12 z12 x13 z13
  go_wp2
  clear x0 z0 fz0 x1 z1 fz1 x2 z2 fz2 x3 z3 fz3 x4 z4 fz4 x5 z5 fz5 x6 z6 fz6 x7 z7 fz7 x8 z8 fz8 x9 z9 fz9 x10 z10 fz10 x11 z11 fz11 x12 z12 fz12 x13 z13 fz13
  have hR2 := ((((((((((((((hR.set_ 0 (.int .i64 (k : Int))).set_ 1 (.int .i64 (m : Int))).set_ 2 (.int .i64 da)).set_ 3 (.int .i64 tr.id)).set_ 4 (str tr.buyer)).set_ 5 (str tr.seller)).set_ 6 (str tr.isin)).set_ 7 (.int .i64 tr.qty)).set_ 8 (.int .i64 tr.price)).set_ 9 (.string ⟨#[]⟩)).set_ 10 (.int .i64 0)).set_ 11 (.slice none 0 0)).set_ 12 (.int .i64 0)).set_ 13 (.int .u64 0))
  have hr2 := ((((((((((((((hr1.far (i := 0) n9 i2 (.int .i64 (k : Int))).far (i := 1) n9 i2 (.int .i64 (m : Int))).far (i := 2) n9 i2 (.int .i64 da)).far (i := 3) n9 i2 (.int .i64 tr.id)).far (i := 4) n9 i2 (str tr.buyer)).far (i := 5) n9 i2 (str tr.seller)).far (i := 6) n9 i2 (str tr.isin)).far (i := 7) n9 i2 (.int .i64 tr.qty)).far (i := 8) n9 i2 (.int .i64 tr.price)).far (i := 9) n9 i2 (.string ⟨#[]⟩)).far (i := 10) n9 i2 (.int .i64 0)).far (i := 11) n9 i2 (.slice none 0 0)).far (i := 12) n9 i2 (.int .i64 0)).far (i := 13) n9 i2 (.int .u64 0))
  have hU2 := ((((((((((((((hU.new1 (i := 0) n11 (.int .i64 (k : Int))).new1 (i := 1) n11 (.int .i64 (m : Int))).new1 (i := 2) n11 (.int .i64 da)).new1 (i := 3) n11 (.int .i64 tr.id)).new1 (i := 4) n11 (str tr.buyer)).new1 (i := 5) n11 (str tr.seller)).new1 (i := 6) n11 (str tr.isin)).new1 (i := 7) n11 (.int .i64 tr.qty)).new1 (i := 8) n11 (.int .i64 tr.price)).new1 (i := 9) n11 (.string ⟨#[]⟩)).new1 (i := 10) n11 (.int .i64 0)).new1 (i := 11) n11 (.slice none 0 0)).new1 (i := 12) n11 (.int .i64 0)).new1 (i := 13) n11 (.int .u64 0))
  simp at hR2
  refine bp_abs (fun wx hwx => ?_)
  rw [← hwx] at hR2 hr2 hU2
  clear hwx
  have z0 := hR2.cell 0
  have z1 := hR2.cell 1
  have z2 := hR2.cell 2
  have z3 := hR2.cell 3
  have z4 := hR2.cell 4
  have z5 := hR2.cell 5
  have z6 := hR2.cell 6
  have z7 := hR2.cell 7
  have z8 := hR2.cell 8
  have z9 := hR2.cell 9
  have z10 := hR2.cell 10
  have z11 := hR2.cell 11
  have z12 := hR2.cell 12
  have z13 := hR2.cell 13
  simp at z0 z1 z2 z3 z4 z5 z6 z7 z8 z9 z10 z11 z12 z13
  have hq := HQ.out
  subst hq
  clear HQ
  refine bodyPost_ret (v := .agg (ntA ⟨k, m, da, tr, [], 0, [], 0, 0⟩ none 0)) (by simp [results, Tryd.results9, go_sem, z0, z1, z2, z3, z4, z5, z6, z7, z8, z9, z10, z11, z12, z13]) rfl ?_
  exact ⟨_, rfl, ⟨_, _, rfl, Rd.nil_⟩, hr2, hU2⟩

set_option maxRecDepth 100000 in
set_option maxHeartbeats 4000000 in
theorem note_mark (g : Nat) (s : RS) (w : World) (I : Nat → Prop) (hI : ∀ k, I k → k < w.heap.size) (h : RdrAt w I g s) (hk : isKind (rKind s).1 = true) (hf : formOf (rKind s).1 = ⟨true, true, false, false, false, true, false⟩) :
    Calls Tryd.prog 9 #[.agg #[.pointer (some ⟨g, 0, none⟩)]] w (RPost I g w (rNote s).2 (VNote w.heap.size (rNote s).1)) := by
  have hg := h.lt
  have hkl := rKind_lt s
  obtain ⟨q, hq⟩ : ∃ q, rNote s = q := ⟨_, rfl⟩
  rw [hq]
  have hforms := forms_any (rKind s).1
  rw [hk, hf] at hforms
  have hct : ∀ w, RdrAt w I g s → Calls Tryd.prog 15 #[.pointer (some ⟨g, 0, none⟩)] w (RPost I g w (rKind s).2 (fun v _ => v = .int .u8 ((rKind s).1 : Int))) := fun w h => byte_any g s w I h
  rw [show rNote s = rNote s from rfl] at hq
  unfold rNote at hq
  simp only [hk, hf, opt, if_true, Bool.false_eq_true, if_false] at hq
  generalize rKind s = ks at *
  obtain ⟨k, s1⟩ := ks
  have HQ := Lib.hid hq
  have HFo := Lib.hid hforms
  have HCT := Lib.hid hct
  clear hq hforms hct hk hf
  have hb0 := (Blk.new w 40 #[.pointer (some ⟨g, 0, none⟩)]).alloc (.cells #[.int .i64 0, .int .i64 0, .int .i64 0, .int .i64 0, .string ⟨#[]⟩, .string ⟨#[]⟩, .string ⟨#[]⟩, .int .i64 0, .int .i64 0, .string ⟨#[]⟩, .int .i64 0, .slice none 0 0, .int .i64 0, .int .u64 0] 30)
  have hR := Blk.new (w.alloc (.cells #[.pointer (some ⟨g, 0, none⟩)] 40)) 30 #[.int .i64 0, .int .i64 0, .int .i64 0, .int .i64 0, .string ⟨#[]⟩, .string ⟨#[]⟩, .string ⟨#[]⟩, .int .i64 0, .int .i64 0, .string ⟨#[]⟩, .int .i64 0, .slice none 0 0, .int .i64 0, .int .u64 0]
  rw [World.size_alloc] at hR
  have hr := h.upd (((Upd.refl none_ w).alloc (.cells #[.pointer (some ⟨g, 0, none⟩)] 40)).alloc (.cells #[.int .i64 0, .int .i64 0, .int .i64 0, .int .i64 0, .string ⟨#[]⟩, .string ⟨#[]⟩, .string ⟨#[]⟩, .int .i64 0, .int .i64 0, .string ⟨#[]⟩, .int .i64 0, .slice none 0 0, .int .i64 0, .int .u64 0] 30)) (fun h => h) (fun _ h => h.elim)
  have hU : Upd (· = g) w ((w.alloc (.cells #[.pointer (some ⟨g, 0, none⟩)] 40)).alloc (.cells #[.int .i64 0, .int .i64 0, .int .i64 0, .int .i64 0, .string ⟨#[]⟩, .string ⟨#[]⟩, .string ⟨#[]⟩, .int .i64 0, .int .i64 0, .string ⟨#[]⟩, .int .i64 0, .slice none 0 0, .int .i64 0, .int .u64 0] 30)) := ((Upd.refl _ w).alloc _).alloc _
  go_enter Tryd.func9, Tryd.ntmps9
  go_wp2_with fail
  refine (HCT.out _ hr).mono ?_
  rintro e w1 ⟨v, rfl, rfl, hr1, hu1⟩
  replace hb0 := hb0.upd hu1 (by omega)
  replace hR := hR.upd hu1 (by omega)
  replace hU := hU.trans hu1
  clear hr hu1 HCT
  have hk64 : -9223372036854775808 ≤ (k : Int) ∧ (k : Int) ≤ 9223372036854775807 := by omega
  go_wp2_with fail
  refine (HFo.out _).mono ?_
  rintro e w2 ⟨rfl, hu2⟩
  clear hk64 HFo
  have n1 := hR.lt
  have hX2 := (Blk.new w1 30 #[.int .i64 (k : Int), .int .i64 0, .int .i64 0, .int .i64 0, .string ⟨#[]⟩, .string ⟨#[]⟩, .string ⟨#[]⟩, .int .i64 0, .int .i64 0, .string ⟨#[]⟩, .int .i64 0, .slice none 0 0, .int .i64 0, .int .u64 0]).upd hu2 (fun h => h)
  have n2 := hX2.lt
  have hX := hX2.alloc (.cells (fmA ⟨true, true, false, false, false, true, false⟩) 56)
  replace hb0 := ((hb0.alloc _).upd hu2 (fun h => h)).alloc (.cells (fmA ⟨true, true, false, false, false, true, false⟩) 56)
  replace hR := ((hR.alloc _).upd hu2 (fun h => h)).alloc (.cells (fmA ⟨true, true, false, false, false, true, false⟩) 56)
  have hF := Blk.new w2 56 (fmA ⟨true, true, false, false, false, true, false⟩)
  replace hr1 := (hr1.upd (((Upd.refl none_ w1).alloc _).trans hu2) (fun h => h) (fun _ h => h.elim)).upd ((Upd.refl none_ w2).alloc (.cells (fmA ⟨true, true, false, false, false, true, false⟩) 56)) (fun h => h) (fun _ h => h.elim)
  replace hU := ((hU.alloc _).trans (hu2.mono (fun _ h => h.elim))).alloc (.cells (fmA ⟨true, true, false, false, false, true, false⟩) 56)
  clear hX2 hu2 h hkl
  go_upto_region 3 with fail
  refine wp_abs (fun w3 hw3 => ?_)
  rw [← hw3] at hb0 hR hX hF hr1 hU
  clear hw3
  generalize hXn : w1.heap.size = X at *
  generalize hYn : w2.heap.size = Y at *
  clear hXn hYn
  have n3 : w.heap.size ≠ X := by omega
  have n4 : w.heap.size ≠ Y := by omega
  have n5 : w.heap.size + 1 ≠ X := by omega
  have n6 : w.heap.size + 1 ≠ Y := by omega
  have n7 : X ≠ Y := by omega
  have n8 : g ≠ X := by omega
  have n9 : g ≠ w.heap.size + 1 := by omega
  have n12 : g ≠ Y := by omega
  have n10 : w.heap.size ≤ X := by omega
  have n11 : w.heap.size ≤ w.heap.size + 1 := by omega
  have i1 : ¬ I X := fun h => by have := hI _ h; omega
  have i2 : ¬ I (w.heap.size + 1) := fun h => by have := hI _ h; omega
  have i3 : ∀ k, k = g → ¬ I k → ¬ I k := fun _ _ h => h
  clear n1 n2
  have y0 := hb0.cell 0
  have f0 := hF.cell 0
  have f1 := hF.cell 1
  have f2 := hF.cell 2
  have f3 := hF.cell 3
  have f4 := hF.cell 4
  have f5 := hF.cell 5
  have f6 := hF.cell 6
  simp at y0 f0 f1 f2 f3 f4 f5 f6
  obtain ⟨p, hp⟩ : ∃ p, rPeer s1 = p := ⟨_, rfl⟩
  have HQ2 := HQ.out
  rw [hp] at HQ2
  have hsz := hU.size
  have hI2 : ∀ W : World, w.heap.size ≤ W.heap.size → ∀ k, I k → k < W.heap.size := fun W h k hk => Nat.lt_of_lt_of_le (hI k hk) h
  replace hI2 := hI2 _ hsz
  have hct : ∀ W, RdrAt W I g s1 → Calls Tryd.prog 15 #[.pointer (some ⟨g, 0, none⟩)] W (RPost I g W p.2 (fun v _ => ∃ m : Nat, p.1 = m ∧ m < 256 ∧ v = .int .u8 (m : Int))) := by
    intro W h
    refine (byte_any g s1 W I h).mono ?_
    rw [← hp]
    exact fun e w hh => by
      obtain ⟨v, e1, e2, e3, e4⟩ := hh
      exact ⟨v, e1, ⟨_, rfl, rKind_lt s1, e2⟩, e3, e4⟩
  have HCT := Lib.hid hct
  clear hct
  clear HQ
  have HQ := Lib.hid HQ2
  clear HQ2
  obtain ⟨pe, s_pe⟩ := p
  go_wp2_with fail
  refine (HCT.out _ hr1).mono ?_
  rintro e wn ⟨v, rfl, ⟨m, hm, hm2, rfl⟩, hr2, hu⟩
  change pe = m at hm
  subst hm
  have hm3 : -9223372036854775808 ≤ (m : Int) ∧ (m : Int) ≤ 9223372036854775807 := by omega
  clear HCT hp hI2 hr1
  clear y0 f0 f1 f2 f3 f4 f5 f6
  replace hb0 := hb0.upd hu (by omega)
  replace hR := hR.upd hu (by omega)
  replace hX := hX.upd hu (by omega)
  replace hF := hF.upd hu (by omega)
  replace hU := hU.trans hu
  clear hu
  have x1 := hX.cell 1
  have fx1 := hX.frozen 1
  simp at x1
  go_upto_region 7 with fail
  clear hm2 hm3
  replace hX := (hX.set_ 1 (.int .i64 (m : Int)))
  replace hb0 := (hb0.far (p := ⟨X, 1, none⟩) n3 (.int .i64 (m : Int)))
  replace hR := (hR.far (p := ⟨X, 1, none⟩) n5 (.int .i64 (m : Int)))
  replace hF := (hF.far (p := ⟨X, 1, none⟩) (Ne.symm n7) (.int .i64 (m : Int)))
  have hr1 := (hr2.far (i := 1) n8 i1 (.int .i64 (m : Int)))
  replace hU := (hU.new1 (i := 1) n10 (.int .i64 (m : Int)))
  clear hr2 x1 fx1
  simp at hX
  refine wp_abs (fun wx hwx => ?_)
  rw [← hwx] at hb0 hR hX hF hr1 hU
  clear hwx
  have y0 := hb0.cell 0
  have f0 := hF.cell 0
  have f1 := hF.cell 1
  have f2 := hF.cell 2
  have f3 := hF.cell 3
  have f4 := hF.cell 4
  have f5 := hF.cell 5
  have f6 := hF.cell 6
  simp at y0 f0 f1 f2 f3 f4 f5 f6
  obtain ⟨p, hp⟩ : ∃ p, rCount 9223372036854775807 s_pe = p := ⟨_, rfl⟩
  have HQ2 := HQ.out
  rw [hp] at HQ2
  have hsz := hU.size
  have hI2 : ∀ W : World, w.heap.size ≤ W.heap.size → ∀ k, I k → k < W.heap.size := fun W h k hk => Nat.lt_of_lt_of_le (hI k hk) h
  replace hI2 := hI2 _ hsz
  have hct := fun (W : World) (hI2 : ∀ k, I k → k < W.heap.size) (hr1 : RdrAt W I g s_pe) => count_any g s_pe 9223372036854775807 W I hr1
  rw [hp] at hct
  have HCT := Lib.hid hct
  clear hct
  clear HQ
  have HQ := Lib.hid HQ2
  clear HQ2
  obtain ⟨da, s_da⟩ := p
  go_wp2_with fail
  refine (HCT.out _ hI2 hr1).mono ?_
  rintro e wn ⟨v, rfl, rfl, hr2, hu⟩
  clear HCT hp hI2 hr1
  clear y0 f0 f1 f2 f3 f4 f5 f6
  replace hb0 := hb0.upd hu (by omega)
  replace hR := hR.upd hu (by omega)
  replace hX := hX.upd hu (by omega)
  replace hF := hF.upd hu (by omega)
  replace hU := hU.trans hu
  clear hu
  have x2 := hX.cell 2
  have fx2 := hX.frozen 2
  simp at x2
  go_upto_region 9 with fail
  replace hX := (hX.set_ 2 (.int .i64 da))
  replace hb0 := (hb0.far (p := ⟨X, 2, none⟩) n3 (.int .i64 da))
  replace hR := (hR.far (p := ⟨X, 2, none⟩) n5 (.int .i64 da))
  replace hF := (hF.far (p := ⟨X, 2, none⟩) (Ne.symm n7) (.int .i64 da))
  have hr1 := (hr2.far (i := 2) n8 i1 (.int .i64 da))
  replace hU := (hU.new1 (i := 2) n10 (.int .i64 da))
  clear hr2 x2 fx2
  simp at hX
  refine wp_abs (fun wx hwx => ?_)
  rw [← hwx] at hb0 hR hX hF hr1 hU
  clear hwx
  have y0 := hb0.cell 0
  have f0 := hF.cell 0
  have f1 := hF.cell 1
  have f2 := hF.cell 2
  have f3 := hF.cell 3
  have f4 := hF.cell 4
  have f5 := hF.cell 5
  have f6 := hF.cell 6
  simp at y0 f0 f1 f2 f3 f4 f5 f6
  obtain ⟨p, hp⟩ : ∃ p, rRows s_da = p := ⟨_, rfl⟩
  have HQ2 := HQ.out
  rw [hp] at HQ2
  have hsz := hU.size
  have hI2 : ∀ W : World, w.heap.size ≤ W.heap.size → ∀ k, I k → k < W.heap.size := fun W h k hk => Nat.lt_of_lt_of_le (hI k hk) h
  replace hI2 := hI2 _ hsz
  have hct := fun (W : World) (hI2 : ∀ k, I k → k < W.heap.size) (hr1 : RdrAt W I g s_da) => rrows_any g s_da W I hI2 hr1
  rw [hp] at hct
  have HCT := Lib.hid hct
  clear hct
  clear HQ
  have HQ := Lib.hid HQ2
  clear HQ2
  obtain ⟨ro, s_ro⟩ := p
  go_wp2_with fail
  refine (HCT.out _ hI2 hr1).mono ?_
  rintro e wn ⟨v, rfl, ⟨A, c, rfl, hrw⟩, hr2, hu⟩
  have b1 := hX.lt
  have b2 := hR.lt
  generalize hHn : wx.heap.size = H at hrw b1 b2 hsz
  clear hHn
  have hszr := hsz
  clear HCT hp hI2 hr1
  clear y0 f0 f1 f2 f3 f4 f5 f6
  replace hb0 := hb0.upd hu (by omega)
  replace hR := hR.upd hu (by omega)
  replace hX := hX.upd hu (by omega)
  replace hF := hF.upd hu (by omega)
  replace hU := hU.trans hu
  clear hu
  have x11 := hX.cell 11
  have fx11 := hX.frozen 11
  simp at x11
  go_upto_region 17 with fail
  replace hX := (hX.set_ 11 (.slice A ro.length c))
  replace hb0 := (hb0.far (p := ⟨X, 11, none⟩) n3 (.slice A ro.length c))
  replace hR := (hR.far (p := ⟨X, 11, none⟩) n5 (.slice A ro.length c))
  replace hF := (hF.far (p := ⟨X, 11, none⟩) (Ne.symm n7) (.slice A ro.length c))
  have hr1 := (hr2.far (i := 11) n8 i1 (.slice A ro.length c))
  replace hU := (hU.new1 (i := 11) n10 (.slice A ro.length c))
  clear hr2 x11 fx11
  replace hrw := Rd.upd hrw (Upd.set1 wn X 11 (.slice A ro.length c)) (by rintro k rfl; omega)
  simp at hX
  refine wp_abs (fun wx hwx => ?_)
  rw [← hwx] at hb0 hR hX hF hr1 hU hrw
  clear hwx
  have y0 := hb0.cell 0
  have f0 := hF.cell 0
  have f1 := hF.cell 1
  have f2 := hF.cell 2
  have f3 := hF.cell 3
  have f4 := hF.cell 4
  have f5 := hF.cell 5
  have f6 := hF.cell 6
  simp at y0 f0 f1 f2 f3 f4 f5 f6
  go_upto_region 19 with fail
  clear y0 f0 f1 f2 f3 f4 f5 f6
  have x0 := hX.cell 0
  have x1 := hX.cell 1
  have x2 := hX.cell 2
  have x3 := hX.cell 3
  have x4 := hX.cell 4
  have x5 := hX.cell 5
  have x6 := hX.cell 6
  have x7 := hX.cell 7
  have x8 := hX.cell 8
  have x9 := hX.cell 9
  have x10 := hX.cell 10
  have x11 := hX.cell 11
  have x12 := hX.cell 12
  have x13 := hX.cell 13
  have z0 := hR.cell 0
  have z1 := hR.cell 1
  have z2 := hR.cell 2
  have z3 := hR.cell 3
  have z4 := hR.cell 4
  have z5 := hR.cell 5
  have z6 := hR.cell 6
  have z7 := hR.cell 7
  have z8 := hR.cell 8
  have z9 := hR.cell 9
  have z10 := hR.cell 10
  have z11 := hR.cell 11
  have z12 := hR.cell 12
  have z13 := hR.cell 13
  have fz0 := hR.frozen 0
  have fz1 := hR.frozen 1
  have fz2 := hR.frozen 2
  have fz3 := hR.frozen 3
  have fz4 := hR.frozen 4
  have fz5 := hR.frozen 5
  have fz6 := hR.frozen 6
  have fz7 := hR.frozen 7
  have fz8 := hR.frozen 8
  have fz9 := hR.frozen 9
  have fz10 := hR.frozen 10
  have fz11 := hR.frozen 11
  have fz12 := hR.frozen 12
  have fz13 := hR.frozen 13
  simp at x0 z0 x1 z1 x2 z2 x3 z3 x4 z4 x5 z5 x6 z6 x7 z7 x8 z8 x9 z9 x10 z10 x11 z11 x12 z12 x13 z13
  go_wp2
  clear x0 z0 fz0 x1 z1 fz1 x2 z2 fz2 x3 z3 fz3 x4 z4 fz4 x5 z5 fz5 x6 z6 fz6 x7 z7 fz7 x8 z8 fz8 x9 z9 fz9 x10 z10 fz10 x11 z11 fz11 x12 z12 fz12 x13 z13 fz13
  have hR2 := ((((((((((((((hR.set_ 0 (.int .i64 (k : Int))).set_ 1 (.int .i64 (m : Int))).set_ 2 (.int .i64 da)).set_ 3 (.int .i64 0)).set_ 4 (.string ⟨#[]⟩)).set_ 5 (.string ⟨#[]⟩)).set_ 6 (.string ⟨#[]⟩)).set_ 7 (.int .i64 0)).set_ 8 (.int .i64 0)).set_ 9 (.string ⟨#[]⟩)).set_ 10 (.int .i64 0)).set_ 11 (.slice A ro.length c)).set_ 12 (.int .i64 0)).set_ 13 (.int .u64 0))
  have hr2 := ((((((((((((((hr1.far (i := 0) n9 i2 (.int .i64 (k : Int))).far (i := 1) n9 i2 (.int .i64 (m : Int))).far (i := 2) n9 i2 (.int .i64 da)).far (i := 3) n9 i2 (.int .i64 0)).far (i := 4) n9 i2 (.string ⟨#[]⟩)).far (i := 5) n9 i2 (.string ⟨#[]⟩)).far (i := 6) n9 i2 (.string ⟨#[]⟩)).far (i := 7) n9 i2 (.int .i64 0)).far (i := 8) n9 i2 (.int .i64 0)).far (i := 9) n9 i2 (.string ⟨#[]⟩)).far (i := 10) n9 i2 (.int .i64 0)).far (i := 11) n9 i2 (.slice A ro.length c)).far (i := 12) n9 i2 (.int .i64 0)).far (i := 13) n9 i2 (.int .u64 0))
  have hU2 := ((((((((((((((hU.new1 (i := 0) n11 (.int .i64 (k : Int))).new1 (i := 1) n11 (.int .i64 (m : Int))).new1 (i := 2) n11 (.int .i64 da)).new1 (i := 3) n11 (.int .i64 0)).new1 (i := 4) n11 (.string ⟨#[]⟩)).new1 (i := 5) n11 (.string ⟨#[]⟩)).new1 (i := 6) n11 (.string ⟨#[]⟩)).new1 (i := 7) n11 (.int .i64 0)).new1 (i := 8) n11 (.int .i64 0)).new1 (i := 9) n11 (.string ⟨#[]⟩)).new1 (i := 10) n11 (.int .i64 0)).new1 (i := 11) n11 (.slice A ro.length c)).new1 (i := 12) n11 (.int .i64 0)).new1 (i := 13) n11 (.int .u64 0))
  simp at hR2
  have hrw2 := (Rd.upd (Rd.upd (Rd.upd (Rd.upd (Rd.upd (Rd.upd (Rd.upd (Rd.upd (Rd.upd (Rd.upd (Rd.upd (Rd.upd (Rd.upd (Rd.upd hrw (Upd.set1 _ (w.heap.size + 1) 0 (.int .i64 (k : Int))) (by rintro k rfl; omega)) (Upd.set1 _ (w.heap.size + 1) 1 (.int .i64 (m : Int))) (by rintro k rfl; omega)) (Upd.set1 _ (w.heap.size + 1) 2 (.int .i64 da)) (by rintro k rfl; omega)) (Upd.set1 _ (w.heap.size + 1) 3 (.int .i64 0)) (by rintro k rfl; omega)) (Upd.set1 _ (w.heap.size + 1) 4 (.string ⟨#[]⟩)) (by rintro k rfl; omega)) (Upd.set1 _ (w.heap.size + 1) 5 (.string ⟨#[]⟩)) (by rintro k rfl; omega)) (Upd.set1 _ (w.heap.size + 1) 6 (.string ⟨#[]⟩)) (by rintro k rfl; omega)) (Upd.set1 _ (w.heap.size + 1) 7 (.int .i64 0)) (by rintro k rfl; omega)) (Upd.set1 _ (w.heap.size + 1) 8 (.int .i64 0)) (by rintro k rfl; omega)) (Upd.set1 _ (w.heap.size + 1) 9 (.string ⟨#[]⟩)) (by rintro k rfl; omega)) (Upd.set1 _ (w.heap.size + 1) 10 (.int .i64 0)) (by rintro k rfl; omega)) (Upd.set1 _ (w.heap.size + 1) 11 (.slice A ro.length c)) (by rintro k rfl; omega)) (Upd.set1 _ (w.heap.size + 1) 12 (.int .i64 0)) (by rintro k rfl; omega)) (Upd.set1 _ (w.heap.size + 1) 13 (.int .u64 0)) (by rintro k rfl; omega))
  refine bp_abs (fun wx hwx => ?_)
  rw [← hwx] at hR2 hr2 hU2 hrw2
  clear hwx
  have z0 := hR2.cell 0
  have z1 := hR2.cell 1
  have z2 := hR2.cell 2
  have z3 := hR2.cell 3
  have z4 := hR2.cell 4
  have z5 := hR2.cell 5
  have z6 := hR2.cell 6
  have z7 := hR2.cell 7
  have z8 := hR2.cell 8
  have z9 := hR2.cell 9
  have z10 := hR2.cell 10
  have z11 := hR2.cell 11
  have z12 := hR2.cell 12
  have z13 := hR2.cell 13
  simp at z0 z1 z2 z3 z4 z5 z6 z7 z8 z9 z10 z11 z12 z13
  have hq := HQ.out
  subst hq
  clear HQ
  refine bodyPost_ret (v := .agg (ntA ⟨k, m, da, trZero, [], 0, ro, 0, 0⟩ A c)) (by simp [results, Tryd.results9, go_sem, z0, z1, z2, z3, z4, z5, z6, z7, z8, z9, z10, z11, z12, z13, trZero]) rfl ?_
  exact ⟨_, rfl, ⟨_, _, rfl, Rd.more hrw2 (fun k h => Nat.le_trans hszr h)⟩, hr2, hU2⟩

set_option maxRecDepth 100000 in
set_option maxHeartbeats 4000000 in
theorem note_report (g : Nat) (s : RS) (w : World) (I : Nat → Prop) (hI : ∀ k, I k → k < w.heap.size) (h : RdrAt w I g s) (hk : isKind (rKind s).1 = true) (hf : formOf (rKind s).1 = ⟨true, true, false, false, false, true, true⟩) :
    Calls Tryd.prog 9 #[.agg #[.pointer (some ⟨g, 0, none⟩)]] w (RPost I g w (rNote s).2 (VNote w.heap.size (rNote s).1)) := by
  have hg := h.lt
  have hkl := rKind_lt s
  obtain ⟨q, hq⟩ : ∃ q, rNote s = q := ⟨_, rfl⟩
  rw [hq]
  have hforms := forms_any (rKind s).1
  rw [hk, hf] at hforms
  have hct : ∀ w, RdrAt w I g s → Calls Tryd.prog 15 #[.pointer (some ⟨g, 0, none⟩)] w (RPost I g w (rKind s).2 (fun v _ => v = .int .u8 ((rKind s).1 : Int))) := fun w h => byte_any g s w I h
  rw [show rNote s = rNote s from rfl] at hq
  unfold rNote at hq
  simp only [hk, hf, opt, if_true, Bool.false_eq_true, if_false] at hq
  generalize rKind s = ks at *
  obtain ⟨k, s1⟩ := ks
  have HQ := Lib.hid hq
  have HFo := Lib.hid hforms
  have HCT := Lib.hid hct
  clear hq hforms hct hk hf
  have hb0 := (Blk.new w 40 #[.pointer (some ⟨g, 0, none⟩)]).alloc (.cells #[.int .i64 0, .int .i64 0, .int .i64 0, .int .i64 0, .string ⟨#[]⟩, .string ⟨#[]⟩, .string ⟨#[]⟩, .int .i64 0, .int .i64 0, .string ⟨#[]⟩, .int .i64 0, .slice none 0 0, .int .i64 0, .int .u64 0] 30)
  have hR := Blk.new (w.alloc (.cells #[.pointer (some ⟨g, 0, none⟩)] 40)) 30 #[.int .i64 0, .int .i64 0, .int .i64 0, .int .i64 0, .string ⟨#[]⟩, .string ⟨#[]⟩, .string ⟨#[]⟩, .int .i64 0, .int .i64 0, .string ⟨#[]⟩, .int .i64 0, .slice none 0 0, .int .i64 0, .int .u64 0]
  rw [World.size_alloc] at hR
  have hr := h.upd (((Upd.refl none_ w).alloc (.cells #[.pointer (some ⟨g, 0, none⟩)] 40)).alloc (.cells #[.int .i64 0, .int .i64 0, .int .i64 0, .int .i64 0, .string ⟨#[]⟩, .string ⟨#[]⟩, .string ⟨#[]⟩, .int .i64 0, .int .i64 0, .string ⟨#[]⟩, .int .i64 0, .slice none 0 0, .int .i64 0, .int .u64 0] 30)) (fun h => h) (fun _ h => h.elim)
  have hU : Upd (· = g) w ((w.alloc (.cells #[.pointer (some ⟨g, 0, none⟩)] 40)).alloc (.cells #[.int .i64 0, .int .i64 0, .int .i64 0, .int .i64 0, .string ⟨#[]⟩, .string ⟨#[]⟩, .string ⟨#[]⟩, .int .i64 0, .int .i64 0, .string ⟨#[]⟩, .int .i64 0, .slice none 0 0, .int .i64 0, .int .u64 0] 30)) := ((Upd.refl _ w).alloc _).alloc _
  go_enter Tryd.func9, Tryd.ntmps9
  go_wp2_with fail
  refine (HCT.out _ hr).mono ?_
  rintro e w1 ⟨v, rfl, rfl, hr1, hu1⟩
  replace hb0 := hb0.upd hu1 (by omega)
  replace hR := hR.upd hu1 (by omega)
  replace hU := hU.trans hu1
  clear hr hu1 HCT
  have hk64 : -9223372036854775808 ≤ (k : Int) ∧ (k : Int) ≤ 9223372036854775807 := by omega
  go_wp2_with fail
  refine (HFo.out _).mono ?_
  rintro e w2 ⟨rfl, hu2⟩
  clear hk64 HFo
  have n1 := hR.lt
  have hX2 := (Blk.new w1 30 #[.int .i64 (k : Int), .int .i64 0, .int .i64 0, .int .i64 0, .string ⟨#[]⟩, .string ⟨#[]⟩, .string ⟨#[]⟩, .int .i64 0, .int .i64 0, .string ⟨#[]⟩, .int .i64 0, .slice none 0 0, .int .i64 0, .int .u64 0]).upd hu2 (fun h => h)
  have n2 := hX2.lt
  have hX := hX2.alloc (.cells (fmA ⟨true, true, false, false, false, true, true⟩) 56)
  replace hb0 := ((hb0.alloc _).upd hu2 (fun h => h)).alloc (.cells (fmA ⟨true, true, false, false, false, true, true⟩) 56)
  replace hR := ((hR.alloc _).upd hu2 (fun h => h)).alloc (.cells (fmA ⟨true, true, false, false, false, true, true⟩) 56)
  have hF := Blk.new w2 56 (fmA ⟨true, true, false, false, false, true, true⟩)
  replace hr1 := (hr1.upd (((Upd.refl none_ w1).alloc _).trans hu2) (fun h => h) (fun _ h => h.elim)).upd ((Upd.refl none_ w2).alloc (.cells (fmA ⟨true, true, false, false, false, true, true⟩) 56)) (fun h => h) (fun _ h => h.elim)
  replace hU := ((hU.alloc _).trans (hu2.mono (fun _ h => h.elim))).alloc (.cells (fmA ⟨true, true, false, false, false, true, true⟩) 56)
  clear hX2 hu2 h hkl
  go_upto_region 3 with fail
  refine wp_abs (fun w3 hw3 => ?_)
  rw [← hw3] at hb0 hR hX hF hr1 hU
  clear hw3
  generalize hXn : w1.heap.size = X at *
  generalize hYn : w2.heap.size = Y at *
  clear hXn hYn
  have n3 : w.heap.size ≠ X := by omega
  have n4 : w.heap.size ≠ Y := by omega
  have n5 : w.heap.size + 1 ≠ X := by omega
  have n6 : w.heap.size + 1 ≠ Y := by omega
  have n7 : X ≠ Y := by omega
  have n8 : g ≠ X := by omega
  have n9 : g ≠ w.heap.size + 1 := by omega
  have n12 : g ≠ Y := by omega
  have n10 : w.heap.size ≤ X := by omega
  have n11 : w.heap.size ≤ w.heap.size + 1 := by omega
  have i1 : ¬ I X := fun h => by have := hI _ h; omega
  have i2 : ¬ I (w.heap.size + 1) := fun h => by have := hI _ h; omega
  have i3 : ∀ k, k = g → ¬ I k → ¬ I k := fun _ _ h => h
  clear n1 n2
  have y0 := hb0.cell 0
  have f0 := hF.cell 0
  have f1 := hF.cell 1
  have f2 := hF.cell 2
  have f3 := hF.cell 3
  have f4 := hF.cell 4
  have f5 := hF.cell 5
  have f6 := hF.cell 6
  simp at y0 f0 f1 f2 f3 f4 f5 f6
  obtain ⟨p, hp⟩ : ∃ p, rPeer s1 = p := ⟨_, rfl⟩
  have HQ2 := HQ.out
  rw [hp] at HQ2
  have hsz := hU.size
  have hI2 : ∀ W : World, w.heap.size ≤ W.heap.size → ∀ k, I k → k < W.heap.size := fun W h k hk => Nat.lt_of_lt_of_le (hI k hk) h
  replace hI2 := hI2 _ hsz
  have hct : ∀ W, RdrAt W I g s1 → Calls Tryd.prog 15 #[.pointer (some ⟨g, 0, none⟩)] W (RPost I g W p.2 (fun v _ => ∃ m : Nat, p.1 = m ∧ m < 256 ∧ v = .int .u8 (m : Int))) := by
    intro W h
    refine (byte_any g s1 W I h).mono ?_
    rw [← hp]
    exact fun e w hh => by
      obtain ⟨v, e1, e2, e3, e4⟩ := hh
      exact ⟨v, e1, ⟨_, rfl, rKind_lt s1, e2⟩, e3, e4⟩
  have HCT := Lib.hid hct
  clear hct
  clear HQ
  have HQ := Lib.hid HQ2
  clear HQ2
  obtain ⟨pe, s_pe⟩ := p
  go_wp2_with fail
  refine (HCT.out _ hr1).mono ?_
  rintro e wn ⟨v, rfl, ⟨m, hm, hm2, rfl⟩, hr2, hu⟩
  change pe = m at hm
  subst hm
  have hm3 : -9223372036854775808 ≤ (m : Int) ∧ (m : Int) ≤ 9223372036854775807 := by omega
  clear HCT hp hI2 hr1
  clear y0 f0 f1 f2 f3 f4 f5 f6
  replace hb0 := hb0.upd hu (by omega)
  replace hR := hR.upd hu (by omega)
  replace hX := hX.upd hu (by omega)
  replace hF := hF.upd hu (by omega)
  replace hU := hU.trans hu
  clear hu
  have x1 := hX.cell 1
  have fx1 := hX.frozen 1
  simp at x1
  go_upto_region 7 with fail
  clear hm2 hm3
  replace hX := (hX.set_ 1 (.int .i64 (m : Int)))
  replace hb0 := (hb0.far (p := ⟨X, 1, none⟩) n3 (.int .i64 (m : Int)))
  replace hR := (hR.far (p := ⟨X, 1, none⟩) n5 (.int .i64 (m : Int)))
  replace hF := (hF.far (p := ⟨X, 1, none⟩) (Ne.symm n7) (.int .i64 (m : Int)))
  have hr1 := (hr2.far (i := 1) n8 i1 (.int .i64 (m : Int)))
  replace hU := (hU.new1 (i := 1) n10 (.int .i64 (m : Int)))
  clear hr2 x1 fx1
  simp at hX
  refine wp_abs (fun wx hwx => ?_)
  rw [← hwx] at hb0 hR hX hF hr1 hU
  clear hwx
  have y0 := hb0.cell 0
  have f0 := hF.cell 0
  have f1 := hF.cell 1
  have f2 := hF.cell 2
  have f3 := hF.cell 3
  have f4 := hF.cell 4
  have f5 := hF.cell 5
  have f6 := hF.cell 6
  simp at y0 f0 f1 f2 f3 f4 f5 f6
  obtain ⟨p, hp⟩ : ∃ p, rCount 9223372036854775807 s_pe = p := ⟨_, rfl⟩
  have HQ2 := HQ.out
  rw [hp] at HQ2
  have hsz := hU.size
  have hI2 : ∀ W : World, w.heap.size ≤ W.heap.size → ∀ k, I k → k < W.heap.size := fun W h k hk => Nat.lt_of_lt_of_le (hI k hk) h
  replace hI2 := hI2 _ hsz
  have hct := fun (W : World) (hI2 : ∀ k, I k → k < W.heap.size) (hr1 : RdrAt W I g s_pe) => count_any g s_pe 9223372036854775807 W I hr1
  rw [hp] at hct
  have HCT := Lib.hid hct
  clear hct
  clear HQ
  have HQ := Lib.hid HQ2
  clear HQ2
  obtain ⟨da, s_da⟩ := p
  go_wp2_with fail
  refine (HCT.out _ hI2 hr1).mono ?_
  rintro e wn ⟨v, rfl, rfl, hr2, hu⟩
  clear HCT hp hI2 hr1
  clear y0 f0 f1 f2 f3 f4 f5 f6
  replace hb0 := hb0.upd hu (by omega)
  replace hR := hR.upd hu (by omega)
  replace hX := hX.upd hu (by omega)
  replace hF := hF.upd hu (by omega)
  replace hU := hU.trans hu
  clear hu
  have x2 := hX.cell 2
  have fx2 := hX.frozen 2
  simp at x2
  go_upto_region 9 with fail
  replace hX := (hX.set_ 2 (.int .i64 da))
  replace hb0 := (hb0.far (p := ⟨X, 2, none⟩) n3 (.int .i64 da))
  replace hR := (hR.far (p := ⟨X, 2, none⟩) n5 (.int .i64 da))
  replace hF := (hF.far (p := ⟨X, 2, none⟩) (Ne.symm n7) (.int .i64 da))
  have hr1 := (hr2.far (i := 2) n8 i1 (.int .i64 da))
  replace hU := (hU.new1 (i := 2) n10 (.int .i64 da))
  clear hr2 x2 fx2
  simp at hX
  refine wp_abs (fun wx hwx => ?_)
  rw [← hwx] at hb0 hR hX hF hr1 hU
  clear hwx
  have y0 := hb0.cell 0
  have f0 := hF.cell 0
  have f1 := hF.cell 1
  have f2 := hF.cell 2
  have f3 := hF.cell 3
  have f4 := hF.cell 4
  have f5 := hF.cell 5
  have f6 := hF.cell 6
  simp at y0 f0 f1 f2 f3 f4 f5 f6
  obtain ⟨p, hp⟩ : ∃ p, rRows s_da = p := ⟨_, rfl⟩
  have HQ2 := HQ.out
  rw [hp] at HQ2
  have hsz := hU.size
  have hI2 : ∀ W : World, w.heap.size ≤ W.heap.size → ∀ k, I k → k < W.heap.size := fun W h k hk => Nat.lt_of_lt_of_le (hI k hk) h
  replace hI2 := hI2 _ hsz
  have hct := fun (W : World) (hI2 : ∀ k, I k → k < W.heap.size) (hr1 : RdrAt W I g s_da) => rrows_any g s_da W I hI2 hr1
  rw [hp] at hct
  have HCT := Lib.hid hct
  clear hct
  clear HQ
  have HQ := Lib.hid HQ2
  clear HQ2
  obtain ⟨ro, s_ro⟩ := p
  go_wp2_with fail
  refine (HCT.out _ hI2 hr1).mono ?_
  rintro e wn ⟨v, rfl, ⟨A, c, rfl, hrw⟩, hr2, hu⟩
  have b1 := hX.lt
  have b2 := hR.lt
  generalize hHn : wx.heap.size = H at hrw b1 b2 hsz
  clear hHn
  have hszr := hsz
  clear HCT hp hI2 hr1
  clear y0 f0 f1 f2 f3 f4 f5 f6
  replace hb0 := hb0.upd hu (by omega)
  replace hR := hR.upd hu (by omega)
  replace hX := hX.upd hu (by omega)
  replace hF := hF.upd hu (by omega)
  replace hU := hU.trans hu
  clear hu
  have x11 := hX.cell 11
  have fx11 := hX.frozen 11
  simp at x11
  go_upto_region 17 with fail
  replace hX := (hX.set_ 11 (.slice A ro.length c))
  replace hb0 := (hb0.far (p := ⟨X, 11, none⟩) n3 (.slice A ro.length c))
  replace hR := (hR.far (p := ⟨X, 11, none⟩) n5 (.slice A ro.length c))
  replace hF := (hF.far (p := ⟨X, 11, none⟩) (Ne.symm n7) (.slice A ro.length c))
  have hr1 := (hr2.far (i := 11) n8 i1 (.slice A ro.length c))
  replace hU := (hU.new1 (i := 11) n10 (.slice A ro.length c))
  clear hr2 x11 fx11
  replace hrw := Rd.upd hrw (Upd.set1 wn X 11 (.slice A ro.length c)) (by rintro k rfl; omega)
  simp at hX
  refine wp_abs (fun wx hwx => ?_)
  rw [← hwx] at hb0 hR hX hF hr1 hU hrw
  clear hwx
  have y0 := hb0.cell 0
  have f0 := hF.cell 0
  have f1 := hF.cell 1
  have f2 := hF.cell 2
  have f3 := hF.cell 3
  have f4 := hF.cell 4
  have f5 := hF.cell 5
  have f6 := hF.cell 6
  simp at y0 f0 f1 f2 f3 f4 f5 f6
  obtain ⟨p, hp⟩ : ∃ p, rWide s_ro = p := ⟨_, rfl⟩
  have HQ2 := HQ.out
  rw [hp] at HQ2
  have hsz := hU.size
  have hI2 : ∀ W : World, w.heap.size ≤ W.heap.size → ∀ k, I k → k < W.heap.size := fun W h k hk => Nat.lt_of_lt_of_le (hI k hk) h
  replace hI2 := hI2 _ hsz
  have hct := fun (W : World) (hI2 : ∀ k, I k → k < W.heap.size) (hr1 : RdrAt W I g s_ro) => wide_any g s_ro W I hI2 hr1
  rw [hp] at hct
  have HCT := Lib.hid hct
  clear hct
  clear HQ
  have HQ := Lib.hid HQ2
  clear HQ2
  obtain ⟨ca, s_ca⟩ := p
  go_wp2_with fail
  refine (HCT.out _ hI2 hr1).mono ?_
  rintro e wn ⟨v, rfl, rfl, hr2, hu⟩
  clear HCT hp hI2 hr1
  clear y0 f0 f1 f2 f3 f4 f5 f6
  replace hb0 := hb0.upd hu (by omega)
  replace hR := hR.upd hu (by omega)
  replace hX := hX.upd hu (by omega)
  replace hF := hF.upd hu (by omega)
  replace hU := hU.trans hu
  replace hrw := Rd.upd hrw hu (by rintro k rfl; omega)
  clear hu
  have x12 := hX.cell 12
  have fx12 := hX.frozen 12
  have x13 := hX.cell 13
  have fx13 := hX.frozen 13
  simp at x12 x13
  go_upto_region 19 with fail
  replace hX := ((hX.set_ 12 (.int .i64 ca.1)).set_ 13 (.int .u64 ca.2))
  replace hb0 := ((hb0.far (p := ⟨X, 12, none⟩) n3 (.int .i64 ca.1)).far (p := ⟨X, 13, none⟩) n3 (.int .u64 ca.2))
  replace hR := ((hR.far (p := ⟨X, 12, none⟩) n5 (.int .i64 ca.1)).far (p := ⟨X, 13, none⟩) n5 (.int .u64 ca.2))
  replace hF := ((hF.far (p := ⟨X, 12, none⟩) (Ne.symm n7) (.int .i64 ca.1)).far (p := ⟨X, 13, none⟩) (Ne.symm n7) (.int .u64 ca.2))
  have hr1 := ((hr2.far (i := 12) n8 i1 (.int .i64 ca.1)).far (i := 13) n8 i1 (.int .u64 ca.2))
  replace hU := ((hU.new1 (i := 12) n10 (.int .i64 ca.1)).new1 (i := 13) n10 (.int .u64 ca.2))
  clear hr2 x12 fx12 x13 fx13
  replace hrw := Rd.upd (Rd.upd hrw (Upd.set1 wn X 12 (.int .i64 ca.1)) (by rintro k rfl; omega)) (Upd.set1 _ X 13 (.int .u64 ca.2)) (by rintro k rfl; omega)
  simp at hX
  refine wp_abs (fun wx hwx => ?_)
  rw [← hwx] at hb0 hR hX hF hr1 hU hrw
  clear hwx
  have y0 := hb0.cell 0
  have f0 := hF.cell 0
  have f1 := hF.cell 1
  have f2 := hF.cell 2
  have f3 := hF.cell 3
  have f4 := hF.cell 4
  have f5 := hF.cell 5
  have f6 := hF.cell 6
  simp at y0 f0 f1 f2 f3 f4 f5 f6
  clear y0 f0 f1 f2 f3 f4 f5 f6
  have x0 := hX.cell 0
  have x1 := hX.cell 1
  have x2 := hX.cell 2
  have x3 := hX.cell 3
  have x4 := hX.cell 4
  have x5 := hX.cell 5
  have x6 := hX.cell 6
  have x7 := hX.cell 7
  have x8 := hX.cell 8
  have x9 := hX.cell 9
  have x10 := hX.cell 10
  have x11 := hX.cell 11
  have x12 := hX.cell 12
  have x13 := hX.cell 13
  have z0 := hR.cell 0
  have z1 := hR.cell 1
  have z2 := hR.cell 2
  have z3 := hR.cell 3
  have z4 := hR.cell 4
  have z5 := hR.cell 5
  have z6 := hR.cell 6
  have z7 := hR.cell 7
  have z8 := hR.cell 8
  have z9 := hR.cell 9
  have z10 := hR.cell 10
  have z11 := hR.cell 11
  have z12 := hR.cell 12
  have z13 := hR.cell 13
  have fz0 := hR.frozen 0
  have fz1 := hR.frozen 1
  have fz2 := hR.frozen 2
  have fz3 := hR.frozen 3
  have fz4 := hR.frozen 4
  have fz5 := hR.frozen 5
  have fz6 := hR.frozen 6
  have fz7 := hR.frozen 7
  have fz8 := hR.frozen 8
  have fz9 := hR.frozen 9
  have fz10 := hR.frozen 10
  have fz11 := hR.frozen 11
  have fz12 := hR.frozen 12
  have fz13 := hR.frozen 13
  simp at x0 z0 x1 z1 x2 z2 x3 z3 x4 z4 x5 z5 x6 z6 x7 z7 x8 z8 x9 z9 x10 z10 x11 z11 x12 z12 x13 z13
  go_wp2
  clear x0 z0 fz0 x1 z1 fz1 x2 z2 fz2 x3 z3 fz3 x4 z4 fz4 x5 z5 fz5 x6 z6 fz6 x7 z7 fz7 x8 z8 fz8 x9 z9 fz9 x10 z10 fz10 x11 z11 fz11 x12 z12 fz12 x13 z13 fz13
  have hR2 := ((((((((((((((hR.set_ 0 (.int .i64 (k : Int))).set_ 1 (.int .i64 (m : Int))).set_ 2 (.int .i64 da)).set_ 3 (.int .i64 0)).set_ 4 (.string ⟨#[]⟩)).set_ 5 (.string ⟨#[]⟩)).set_ 6 (.string ⟨#[]⟩)).set_ 7 (.int .i64 0)).set_ 8 (.int .i64 0)).set_ 9 (.string ⟨#[]⟩)).set_ 10 (.int .i64 0)).set_ 11 (.slice A ro.length c)).set_ 12 (.int .i64 ca.1)).set_ 13 (.int .u64 ca.2))
  have hr2 := ((((((((((((((hr1.far (i := 0) n9 i2 (.int .i64 (k : Int))).far (i := 1) n9 i2 (.int .i64 (m : Int))).far (i := 2) n9 i2 (.int .i64 da)).far (i := 3) n9 i2 (.int .i64 0)).far (i := 4) n9 i2 (.string ⟨#[]⟩)).far (i := 5) n9 i2 (.string ⟨#[]⟩)).far (i := 6) n9 i2 (.string ⟨#[]⟩)).far (i := 7) n9 i2 (.int .i64 0)).far (i := 8) n9 i2 (.int .i64 0)).far (i := 9) n9 i2 (.string ⟨#[]⟩)).far (i := 10) n9 i2 (.int .i64 0)).far (i := 11) n9 i2 (.slice A ro.length c)).far (i := 12) n9 i2 (.int .i64 ca.1)).far (i := 13) n9 i2 (.int .u64 ca.2))
  have hU2 := ((((((((((((((hU.new1 (i := 0) n11 (.int .i64 (k : Int))).new1 (i := 1) n11 (.int .i64 (m : Int))).new1 (i := 2) n11 (.int .i64 da)).new1 (i := 3) n11 (.int .i64 0)).new1 (i := 4) n11 (.string ⟨#[]⟩)).new1 (i := 5) n11 (.string ⟨#[]⟩)).new1 (i := 6) n11 (.string ⟨#[]⟩)).new1 (i := 7) n11 (.int .i64 0)).new1 (i := 8) n11 (.int .i64 0)).new1 (i := 9) n11 (.string ⟨#[]⟩)).new1 (i := 10) n11 (.int .i64 0)).new1 (i := 11) n11 (.slice A ro.length c)).new1 (i := 12) n11 (.int .i64 ca.1)).new1 (i := 13) n11 (.int .u64 ca.2))
  simp at hR2
  have hrw2 := (Rd.upd (Rd.upd (Rd.upd (Rd.upd (Rd.upd (Rd.upd (Rd.upd (Rd.upd (Rd.upd (Rd.upd (Rd.upd (Rd.upd (Rd.upd (Rd.upd hrw (Upd.set1 _ (w.heap.size + 1) 0 (.int .i64 (k : Int))) (by rintro k rfl; omega)) (Upd.set1 _ (w.heap.size + 1) 1 (.int .i64 (m : Int))) (by rintro k rfl; omega)) (Upd.set1 _ (w.heap.size + 1) 2 (.int .i64 da)) (by rintro k rfl; omega)) (Upd.set1 _ (w.heap.size + 1) 3 (.int .i64 0)) (by rintro k rfl; omega)) (Upd.set1 _ (w.heap.size + 1) 4 (.string ⟨#[]⟩)) (by rintro k rfl; omega)) (Upd.set1 _ (w.heap.size + 1) 5 (.string ⟨#[]⟩)) (by rintro k rfl; omega)) (Upd.set1 _ (w.heap.size + 1) 6 (.string ⟨#[]⟩)) (by rintro k rfl; omega)) (Upd.set1 _ (w.heap.size + 1) 7 (.int .i64 0)) (by rintro k rfl; omega)) (Upd.set1 _ (w.heap.size + 1) 8 (.int .i64 0)) (by rintro k rfl; omega)) (Upd.set1 _ (w.heap.size + 1) 9 (.string ⟨#[]⟩)) (by rintro k rfl; omega)) (Upd.set1 _ (w.heap.size + 1) 10 (.int .i64 0)) (by rintro k rfl; omega)) (Upd.set1 _ (w.heap.size + 1) 11 (.slice A ro.length c)) (by rintro k rfl; omega)) (Upd.set1 _ (w.heap.size + 1) 12 (.int .i64 ca.1)) (by rintro k rfl; omega)) (Upd.set1 _ (w.heap.size + 1) 13 (.int .u64 ca.2)) (by rintro k rfl; omega))
  refine bp_abs (fun wx hwx => ?_)
  rw [← hwx] at hR2 hr2 hU2 hrw2
  clear hwx
  have z0 := hR2.cell 0
  have z1 := hR2.cell 1
  have z2 := hR2.cell 2
  have z3 := hR2.cell 3
  have z4 := hR2.cell 4
  have z5 := hR2.cell 5
  have z6 := hR2.cell 6
  have z7 := hR2.cell 7
  have z8 := hR2.cell 8
  have z9 := hR2.cell 9
  have z10 := hR2.cell 10
  have z11 := hR2.cell 11
  have z12 := hR2.cell 12
  have z13 := hR2.cell 13
  simp at z0 z1 z2 z3 z4 z5 z6 z7 z8 z9 z10 z11 z12 z13
  have hq := HQ.out
  subst hq
  clear HQ
  refine bodyPost_ret (v := .agg (ntA ⟨k, m, da, trZero, [], 0, ro, ca.1, ca.2⟩ A c)) (by simp [results, Tryd.results9, go_sem, z0, z1, z2, z3, z4, z5, z6, z7, z8, z9, z10, z11, z12, z13, trZero]) rfl ?_
  exact ⟨_, rfl, ⟨_, _, rfl, Rd.more hrw2 (fun k h => Nat.le_trans hszr h)⟩, hr2, hU2⟩

set_option maxRecDepth 100000 in
set_option maxHeartbeats 4000000 in
theorem note_no (g : Nat) (s : RS) (w : World) (I : Nat → Prop) (hI : ∀ k, I k → k < w.heap.size) (h : RdrAt w I g s) (hk : isKind (rKind s).1 = false) (hf : formOf (rKind s).1 = ⟨false, false, false, false, false, false, false⟩) :
    Calls Tryd.prog 9 #[.agg #[.pointer (some ⟨g, 0, none⟩)]] w (RPost I g w (rNote s).2 (VNote w.heap.size (rNote s).1)) := by
  have hg := h.lt
  have hkl := rKind_lt s
  obtain ⟨q, hq⟩ : ∃ q, rNote s = q := ⟨_, rfl⟩
  rw [hq]
  have hforms := forms_any (rKind s).1
  rw [hk, hf] at hforms
  have hct : ∀ w, RdrAt w I g s → Calls Tryd.prog 15 #[.pointer (some ⟨g, 0, none⟩)] w (RPost I g w (rKind s).2 (fun v _ => v = .int .u8 ((rKind s).1 : Int))) := fun w h => byte_any g s w I h
  rw [show rNote s = rNote s from rfl] at hq
  unfold rNote at hq
  simp only [hk, hf, opt, Bool.false_eq_true, if_false] at hq
  generalize rKind s = ks at *
  obtain ⟨k, s1⟩ := ks
  have HQ := Lib.hid hq
  have HFo := Lib.hid hforms
  have HCT := Lib.hid hct
  clear hq hforms hct hk hf
  have hb0 := (Blk.new w 40 #[.pointer (some ⟨g, 0, none⟩)]).alloc (.cells #[.int .i64 0, .int .i64 0, .int .i64 0, .int .i64 0, .string ⟨#[]⟩, .string ⟨#[]⟩, .string ⟨#[]⟩, .int .i64 0, .int .i64 0, .string ⟨#[]⟩, .int .i64 0, .slice none 0 0, .int .i64 0, .int .u64 0] 30)
  have hR := Blk.new (w.alloc (.cells #[.pointer (some ⟨g, 0, none⟩)] 40)) 30 #[.int .i64 0, .int .i64 0, .int .i64 0, .int .i64 0, .string ⟨#[]⟩, .string ⟨#[]⟩, .string ⟨#[]⟩, .int .i64 0, .int .i64 0, .string ⟨#[]⟩, .int .i64 0, .slice none 0 0, .int .i64 0, .int .u64 0]
  rw [World.size_alloc] at hR
  have hr := h.upd (((Upd.refl none_ w).alloc (.cells #[.pointer (some ⟨g, 0, none⟩)] 40)).alloc (.cells #[.int .i64 0, .int .i64 0, .int .i64 0, .int .i64 0, .string ⟨#[]⟩, .string ⟨#[]⟩, .string ⟨#[]⟩, .int .i64 0, .int .i64 0, .string ⟨#[]⟩, .int .i64 0, .slice none 0 0, .int .i64 0, .int .u64 0] 30)) (fun h => h) (fun _ h => h.elim)
  have hU : Upd (· = g) w ((w.alloc (.cells #[.pointer (some ⟨g, 0, none⟩)] 40)).alloc (.cells #[.int .i64 0, .int .i64 0, .int .i64 0, .int .i64 0, .string ⟨#[]⟩, .string ⟨#[]⟩, .string ⟨#[]⟩, .int .i64 0, .int .i64 0, .string ⟨#[]⟩, .int .i64 0, .slice none 0 0, .int .i64 0, .int .u64 0] 30)) := ((Upd.refl _ w).alloc _).alloc _
  go_enter Tryd.func9, Tryd.ntmps9
  go_wp2_with fail
  refine (HCT.out _ hr).mono ?_
  rintro e w1 ⟨v, rfl, rfl, hr1, hu1⟩
  replace hb0 := hb0.upd hu1 (by omega)
  replace hR := hR.upd hu1 (by omega)
  replace hU := hU.trans hu1
  clear hr hu1 HCT
  have hk64 : -9223372036854775808 ≤ (k : Int) ∧ (k : Int) ≤ 9223372036854775807 := by omega
  go_wp2_with fail
  refine (HFo.out _).mono ?_
  rintro e w2 ⟨rfl, hu2⟩
  clear hk64 HFo
  have n1 := hR.lt
  have hX2 := (Blk.new w1 30 #[.int .i64 (k : Int), .int .i64 0, .int .i64 0, .int .i64 0, .string ⟨#[]⟩, .string ⟨#[]⟩, .string ⟨#[]⟩, .int .i64 0, .int .i64 0, .string ⟨#[]⟩, .int .i64 0, .slice none 0 0, .int .i64 0, .int .u64 0]).upd hu2 (fun h => h)
  have n2 := hX2.lt
  have hX := hX2.alloc (.cells (fmA ⟨false, false, false, false, false, false, false⟩) 56)
  replace hb0 := ((hb0.alloc _).upd hu2 (fun h => h)).alloc (.cells (fmA ⟨false, false, false, false, false, false, false⟩) 56)
  replace hR := ((hR.alloc _).upd hu2 (fun h => h)).alloc (.cells (fmA ⟨false, false, false, false, false, false, false⟩) 56)
  have hF := Blk.new w2 56 (fmA ⟨false, false, false, false, false, false, false⟩)
  replace hr1 := (hr1.upd (((Upd.refl none_ w1).alloc _).trans hu2) (fun h => h) (fun _ h => h.elim)).upd ((Upd.refl none_ w2).alloc (.cells (fmA ⟨false, false, false, false, false, false, false⟩) 56)) (fun h => h) (fun _ h => h.elim)
  replace hU := ((hU.alloc _).trans (hu2.mono (fun _ h => h.elim))).alloc (.cells (fmA ⟨false, false, false, false, false, false, false⟩) 56)
  clear hX2 hu2 h hkl
  go_upto_region 3 with fail
  refine wp_abs (fun w3 hw3 => ?_)
  rw [← hw3] at hb0 hR hX hF hr1 hU
  clear hw3
  generalize hXn : w1.heap.size = X at *
  generalize hYn : w2.heap.size = Y at *
  clear hXn hYn
  have n3 : w.heap.size ≠ X := by omega
  have n4 : w.heap.size ≠ Y := by omega
  have n5 : w.heap.size + 1 ≠ X := by omega
  have n6 : w.heap.size + 1 ≠ Y := by omega
  have n7 : X ≠ Y := by omega
  have n8 : g ≠ X := by omega
  have n9 : g ≠ w.heap.size + 1 := by omega
  have n12 : g ≠ Y := by omega
  have n10 : w.heap.size ≤ X := by omega
  have n11 : w.heap.size ≤ w.heap.size + 1 := by omega
  have i1 : ¬ I X := fun h => by have := hI _ h; omega
  have i2 : ¬ I (w.heap.size + 1) := fun h => by have := hI _ h; omega
  have i3 : ∀ k, k = g → ¬ I k → ¬ I k := fun _ _ h => h
  clear n1 n2
  have y0 := hb0.cell 0
  have f0 := hF.cell 0
  have f1 := hF.cell 1
  have f2 := hF.cell 2
  have f3 := hF.cell 3
  have f4 := hF.cell 4
  have f5 := hF.cell 5
  have f6 := hF.cell 6
  simp at y0 f0 f1 f2 f3 f4 f5 f6
  go_wp2_with fail
  refine (RFail_any g s1 3 _ I hr1).mono ?_
  rintro e w4 ⟨v, rfl, hv, hr2, hu4⟩
  clear hv hr1
  have hr1 := hr2
  clear hr2
  clear y0 f0 f1 f2 f3 f4 f5 f6
  replace hb0 := hb0.upd hu4 (by omega)
  replace hR := hR.upd hu4 (by omega)
  replace hX := hX.upd hu4 (by omega)
  replace hF := hF.upd hu4 (by omega)
  replace hU := hU.trans hu4
  clear hu4
  have y0 := hb0.cell 0
  have f0 := hF.cell 0
  have f1 := hF.cell 1
  have f2 := hF.cell 2
  have f3 := hF.cell 3
  have f4 := hF.cell 4
  have f5 := hF.cell 5
  have f6 := hF.cell 6
  simp at y0 f0 f1 f2 f3 f4 f5 f6
  go_upto_region 19 with fail
  clear y0 f0 f1 f2 f3 f4 f5 f6
  have x0 := hX.cell 0
  have x1 := hX.cell 1
  have x2 := hX.cell 2
  have x3 := hX.cell 3
  have x4 := hX.cell 4
  have x5 := hX.cell 5
  have x6 := hX.cell 6
  have x7 := hX.cell 7
  have x8 := hX.cell 8
  have x9 := hX.cell 9
  have x10 := hX.cell 10
  have x11 := hX.cell 11
  have x12 := hX.cell 12
  have x13 := hX.cell 13
  have z0 := hR.cell 0
  have z1 := hR.cell 1
  have z2 := hR.cell 2
  have z3 := hR.cell 3
  have z4 := hR.cell 4
  have z5 := hR.cell 5
  have z6 := hR.cell 6
  have z7 := hR.cell 7
  have z8 := hR.cell 8
  have z9 := hR.cell 9
  have z10 := hR.cell 10
  have z11 := hR.cell 11
  have z12 := hR.cell 12
  have z13 := hR.cell 13
  have fz0 := hR.frozen 0
  have fz1 := hR.frozen 1
  have fz2 := hR.frozen 2
  have fz3 := hR.frozen 3
  have fz4 := hR.frozen 4
  have fz5 := hR.frozen 5
  have fz6 := hR.frozen 6
  have fz7 := hR.frozen 7
  have fz8 := hR.frozen 8
  have fz9 := hR.frozen 9
  have fz10 := hR.frozen 10
  have fz11 := hR.frozen 11
  have fz12 := hR.frozen 12
  have fz13 := hR.frozen 13
  simp at x0 z0 x1 z1 x2 z2 x3 z3 x4 z4 x5 z5 x6 z6 x7 z7 x8 z8 x9 z9 x10 z10 x11 z11 x12 z12 x13 z13
  go_wp2
  clear x0 z0 fz0 x1 z1 fz1 x2 z2 fz2 x3 z3 fz3 x4 z4 fz4 x5 z5 fz5 x6 z6 fz6 x7 z7 fz7 x8 z8 fz8 x9 z9 fz9 x10 z10 fz10 x11 z11 fz11 x12 z12 fz12 x13 z13 fz13
  have hR2 := ((((((((((((((hR.set_ 0 (.int .i64 (k : Int))).set_ 1 (.int .i64 0)).set_ 2 (.int .i64 0)).set_ 3 (.int .i64 0)).set_ 4 (.string ⟨#[]⟩)).set_ 5 (.string ⟨#[]⟩)).set_ 6 (.string ⟨#[]⟩)).set_ 7 (.int .i64 0)).set_ 8 (.int .i64 0)).set_ 9 (.string ⟨#[]⟩)).set_ 10 (.int .i64 0)).set_ 11 (.slice none 0 0)).set_ 12 (.int .i64 0)).set_ 13 (.int .u64 0))
  have hr2 := ((((((((((((((hr1.far (i := 0) n9 i2 (.int .i64 (k : Int))).far (i := 1) n9 i2 (.int .i64 0)).far (i := 2) n9 i2 (.int .i64 0)).far (i := 3) n9 i2 (.int .i64 0)).far (i := 4) n9 i2 (.string ⟨#[]⟩)).far (i := 5) n9 i2 (.string ⟨#[]⟩)).far (i := 6) n9 i2 (.string ⟨#[]⟩)).far (i := 7) n9 i2 (.int .i64 0)).far (i := 8) n9 i2 (.int .i64 0)).far (i := 9) n9 i2 (.string ⟨#[]⟩)).far (i := 10) n9 i2 (.int .i64 0)).far (i := 11) n9 i2 (.slice none 0 0)).far (i := 12) n9 i2 (.int .i64 0)).far (i := 13) n9 i2 (.int .u64 0))
  have hU2 := ((((((((((((((hU.new1 (i := 0) n11 (.int .i64 (k : Int))).new1 (i := 1) n11 (.int .i64 0)).new1 (i := 2) n11 (.int .i64 0)).new1 (i := 3) n11 (.int .i64 0)).new1 (i := 4) n11 (.string ⟨#[]⟩)).new1 (i := 5) n11 (.string ⟨#[]⟩)).new1 (i := 6) n11 (.string ⟨#[]⟩)).new1 (i := 7) n11 (.int .i64 0)).new1 (i := 8) n11 (.int .i64 0)).new1 (i := 9) n11 (.string ⟨#[]⟩)).new1 (i := 10) n11 (.int .i64 0)).new1 (i := 11) n11 (.slice none 0 0)).new1 (i := 12) n11 (.int .i64 0)).new1 (i := 13) n11 (.int .u64 0))
  simp at hR2
  refine bp_abs (fun wx hwx => ?_)
  rw [← hwx] at hR2 hr2 hU2
  clear hwx
  have z0 := hR2.cell 0
  have z1 := hR2.cell 1
  have z2 := hR2.cell 2
  have z3 := hR2.cell 3
  have z4 := hR2.cell 4
  have z5 := hR2.cell 5
  have z6 := hR2.cell 6
  have z7 := hR2.cell 7
  have z8 := hR2.cell 8
  have z9 := hR2.cell 9
  have z10 := hR2.cell 10
  have z11 := hR2.cell 11
  have z12 := hR2.cell 12
  have z13 := hR2.cell 13
  simp at z0 z1 z2 z3 z4 z5 z6 z7 z8 z9 z10 z11 z12 z13
  have hq := HQ.out
  subst hq
  clear HQ
  refine bodyPost_ret (v := .agg (ntA ⟨k, 0, 0, trZero, [], 0, [], 0, 0⟩ none 0)) (by simp [results, Tryd.results9, go_sem, z0, z1, z2, z3, z4, z5, z6, z7, z8, z9, z10, z11, z12, z13, trZero]) rfl ?_
  exact ⟨_, rfl, ⟨_, _, rfl, Rd.nil_⟩, hr2, hU2⟩

theorem rnote_any (g : Nat) (s : RS) (w : World) (I : Nat → Prop) (hI : ∀ k, I k → k < w.heap.size) (h : RdrAt w I g s) :
    Calls Tryd.prog 9 #[.agg #[.pointer (some ⟨g, 0, none⟩)]] w (RPost I g w (rNote s).2 (VNote w.heap.size (rNote s).1)) := by
  by_cases hk : isKind (rKind s).1 = true
  · rcases kinds (rKind s).1 with (e | e | e | e | e | e | e | e | e | e | e | e) | e
    · exact note_trade g s w I hI h hk (by rw [e]; rfl)
    · exact note_none g s w I hI h hk (by rw [e]; rfl)
    · exact note_na g s w I hI h hk (by rw [e]; rfl)
    · exact note_day g s w I hI h hk (by rw [e]; rfl)
    · exact note_na g s w I hI h hk (by rw [e]; rfl)
    · exact note_na g s w I hI h hk (by rw [e]; rfl)
    · exact note_name g s w I hI h hk (by rw [e]; rfl)
    · exact note_peer g s w I hI h hk (by rw [e]; rfl)
    · exact note_leg g s w I hI h hk (by rw [e]; rfl)
    · exact note_mark g s w I hI h hk (by rw [e]; rfl)
    · exact note_report g s w I hI h hk (by rw [e]; rfl)
    · exact note_peer g s w I hI h hk (by rw [e]; rfl)
    · simp [isKind] at hk; omega
  · have hk2 : isKind (rKind s).1 = false := by simpa using hk
    have hk3 : (rKind s).1 = 0 ∨ 12 < (rKind s).1 := by simp [isKind] at hk2; omega
    refine note_no g s w I hI h hk2 ?_
    generalize (rKind s).1 = k at hk3
    unfold formOf
    repeat (first | rfl | rw [if_neg (by omega)])

end Go.Proofs.YtpffaenjphnfiaaDoor
