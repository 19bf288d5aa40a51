/- A note out of bytes. -/
import Derived.Deep.CutRange
import Derived.Test.YtpffaenjphnfiaaDoorNoteG
import Derived.Test.YtpffaenjphnfiaaDoorTGet
namespace Go.Proofs.YtpffaenjphnfiaaDoor
open Go.RowKit
attribute [local go_sem] str_size str_toList str_get

theorem bp_abs {P : Program} {f : Func} {Q : Ending → World → Prop} {x : Exit} {a : Act} {w : World} (h : ∀ w1, w1 = w → bodyPost P f Q x a w1) : bodyPost P f Q x a w := h w rfl

def rKind (s : RS) : Nat × RS := (((rBytes 1 s).1.headD 0).toNat, (rBytes 1 s).2)
def opt {α : Type} (b : Bool) (r : RS → α × RS) (z : α) (s : RS) : α × RS := if b then r s else (z, s)
def rPeer (s : RS) : Int × RS := (((rKind s).1 : Int), (rKind s).2)
def rNote (s : RS) : Nt × RS :=
  let k := rKind s
  let f := formOf k.1
  let s1 := if isKind k.1 then k.2 else rFail 3 k.2
  let p := opt f.peer rPeer 0 s1
  let d := opt f.day (rCount 9223372036854775807) 0 p.2
  let t := opt f.trade rTrade trZero d.2
  let n := opt f.name (rText 12) [] t.2
  let a := opt f.amount rNumber 0 n.2
  let l := opt f.rows rRows [] a.2
  let c := opt f.cash rWide (0, 0) l.2
  (⟨k.1, p.1, d.1, t.1, n.1, a.1, l.1, c.1.1, c.1.2⟩, c.2)
theorem rKind_lt (s : RS) : (rKind s).1 < 256 := by
  unfold rKind
  exact UInt8.toNat_lt _
def VNote (H : Nat) (n : Nt) (v : Value) (w : World) : Prop := ∃ A c, v = .agg (ntA n A c) ∧ Rws w (fun k => H ≤ k) A n.rows

set_option maxRecDepth 100000 in
set_option maxHeartbeats 4000000 in
theorem note_trade (g : Nat) (s : RS) (w : World) (I : Nat → Prop) (hI : ∀ k, I k → k < w.heap.size) (h : RdrAt w I g s) (hk : isKind (rKind s).1 = true) (hf : formOf (rKind s).1 = ⟨false, false, true, false, false, false, false⟩) :
    Calls Tryd.prog 9 #[.agg #[.pointer (some ⟨g, 0, none⟩)]] w (RPost I g w (rNote s).2 (VNote w.heap.size (rNote s).1)) := by
  have hg := h.lt
  have hkl := rKind_lt s
  obtain ⟨q, hq⟩ : ∃ q, rNote s = q := ⟨_, rfl⟩
  rw [hq]
  have hforms := forms_any (rKind s).1
  rw [hk, hf] at hforms
  have hct : ∀ w, RdrAt w I g s → Calls Tryd.prog 15 #[.pointer (some ⟨g, 0, none⟩)] w (RPost I g w (rKind s).2 (fun v _ => v = .int .u8 ((rKind s).1 : Int))) := fun w h => byte_any g s w I h
  rw [show rNote s = rNote s from rfl] at hq
  unfold rNote at hq
  simp only [hk, hf, opt, if_true, Bool.false_eq_true, if_false] at hq
  generalize rKind s = ks at *
  obtain ⟨k, s1⟩ := ks
  have HQ := Lib.hid hq
  have HFo := Lib.hid hforms
  have HCT := Lib.hid hct
  clear hq hforms hct hk hf
  have hb0 := (Blk.new w 40 #[.pointer (some ⟨g, 0, none⟩)]).alloc (.cells #[.int .i64 0, .int .i64 0, .int .i64 0, .int .i64 0, .string ⟨#[]⟩, .string ⟨#[]⟩, .string ⟨#[]⟩, .int .i64 0, .int .i64 0, .string ⟨#[]⟩, .int .i64 0, .slice none 0 0, .int .i64 0, .int .u64 0] 30)
  have hR := Blk.new (w.alloc (.cells #[.pointer (some ⟨g, 0, none⟩)] 40)) 30 #[.int .i64 0, .int .i64 0, .int .i64 0, .int .i64 0, .string ⟨#[]⟩, .string ⟨#[]⟩, .string ⟨#[]⟩, .int .i64 0, .int .i64 0, .string ⟨#[]⟩, .int .i64 0, .slice none 0 0, .int .i64 0, .int .u64 0]
  rw [World.size_alloc] at hR
  have hr := h.upd (((Upd.refl none_ w).alloc (.cells #[.pointer (some ⟨g, 0, none⟩)] 40)).alloc (.cells #[.int .i64 0, .int .i64 0, .int .i64 0, .int .i64 0, .string ⟨#[]⟩, .string ⟨#[]⟩, .string ⟨#[]⟩, .int .i64 0, .int .i64 0, .string ⟨#[]⟩, .int .i64 0, .slice none 0 0, .int .i64 0, .int .u64 0] 30)) (fun h => h) (fun _ h => h.elim)
  have hU : Upd (· = g) w ((w.alloc (.cells #[.pointer (some ⟨g, 0, none⟩)] 40)).alloc (.cells #[.int .i64 0, .int .i64 0, .int .i64 0, .int .i64 0, .string ⟨#[]⟩, .string ⟨#[]⟩, .string ⟨#[]⟩, .int .i64 0, .int .i64 0, .string ⟨#[]⟩, .int .i64 0, .slice none 0 0, .int .i64 0, .int .u64 0] 30)) := ((Upd.refl _ w).alloc _).alloc _
  go_enter Tryd.func9, Tryd.ntmps9
  go_wp2_with fail
  refine (HCT.out _ hr).mono ?_
  rintro e w1 ⟨v, rfl, rfl, hr1, hu1⟩
  replace hb0 := hb0.upd hu1 (by omega)
  replace hR := hR.upd hu1 (by omega)
  replace hU := hU.trans hu1
  clear hr hu1 HCT
  have hk64 : -9223372036854775808 ≤ (k : Int) ∧ (k : Int) ≤ 9223372036854775807 := by omega
  go_wp2_with fail
  refine (HFo.out _).mono ?_
  rintro e w2 ⟨rfl, hu2⟩
  clear hk64 HFo
  have n1 := hR.lt
  have hX2 := (Blk.new w1 30 #[.int .i64 (k : Int), .int .i64 0, .int .i64 0, .int .i64 0, .string ⟨#[]⟩, .string ⟨#[]⟩, .string ⟨#[]⟩, .int .i64 0, .int .i64 0, .string ⟨#[]⟩, .int .i64 0, .slice none 0 0, .int .i64 0, .int .u64 0]).upd hu2 (fun h => h)
  have n2 := hX2.lt
  have hX := hX2.alloc (.cells (fmA ⟨false, false, true, false, false, false, false⟩) 56)
  replace hb0 := ((hb0.alloc _).upd hu2 (fun h => h)).alloc (.cells (fmA ⟨false, false, true, false, false, false, false⟩) 56)
  replace hR := ((hR.alloc _).upd hu2 (fun h => h)).alloc (.cells (fmA ⟨false, false, true, false, false, false, false⟩) 56)
  have hF := Blk.new w2 56 (fmA ⟨false, false, true, false, false, false, false⟩)
  replace hr1 := (hr1.upd (((Upd.refl none_ w1).alloc _).trans hu2) (fun h => h) (fun _ h => h.elim)).upd ((Upd.refl none_ w2).alloc (.cells (fmA ⟨false, false, true, false, false, false, false⟩) 56)) (fun h => h) (fun _ h => h.elim)
  replace hU := ((hU.alloc _).trans (hu2.mono (fun _ h => h.elim))).alloc (.cells (fmA ⟨false, false, true, false, false, false, false⟩) 56)
  clear hX2 hu2 h hkl
  go_upto_region 3 with fail
  refine wp_abs (fun w3 hw3 => ?_)
  rw [← hw3] at hb0 hR hX hF hr1 hU
  clear hw3
  generalize hXn : w1.heap.size = X at *
  generalize hYn : w2.heap.size = Y at *
  clear hXn hYn
  have n3 : w.heap.size ≠ X := by omega
  have n4 : w.heap.size ≠ Y := by omega
  have n5 : w.heap.size + 1 ≠ X := by omega
  have n6 : w.heap.size + 1 ≠ Y := by omega
  have n7 : X ≠ Y := by omega
  have n8 : g ≠ X := by omega
  have n9 : g ≠ w.heap.size + 1 := by omega
  have n12 : g ≠ Y := by omega
  have n10 : w.heap.size ≤ X := by omega
  have n11 : w.heap.size ≤ w.heap.size + 1 := by omega
  have i1 : ¬ I X := fun h => by have := hI _ h; omega
  have i2 : ¬ I (w.heap.size + 1) := fun h => by have := hI _ h; omega
  have i3 : ∀ k, k = g → ¬ I k → ¬ I k := fun _ _ h => h
  clear n1 n2
  have y0 := hb0.cell 0
  have f0 := hF.cell 0
  have f1 := hF.cell 1
  have f2 := hF.cell 2
  have f3 := hF.cell 3
  have f4 := hF.cell 4
  have f5 := hF.cell 5
  have f6 := hF.cell 6
  simp at y0 f0 f1 f2 f3 f4 f5 f6
  obtain ⟨p, hp⟩ : ∃ p, rTrade s1 = p := ⟨_, rfl⟩
  have HQ2 := HQ.out
  rw [hp] at HQ2
  have hsz := hU.size
  have hI2 : ∀ W : World, w.heap.size ≤ W.heap.size → ∀ k, I k → k < W.heap.size := fun W h k hk => Nat.lt_of_lt_of_le (hI k hk) h
  replace hI2 := hI2 _ hsz
  have hct := fun (W : World) (hI2 : ∀ k, I k → k < W.heap.size) (hr1 : RdrAt W I g s1) => get_any g s1 W I hI2 hr1
  rw [hp] at hct
  have HCT := Lib.hid hct
  clear hct
  clear HQ
  have HQ := Lib.hid HQ2
  clear HQ2
  obtain ⟨tr, s_tr⟩ := p
  go_wp2_with fail
  refine (HCT.out _ hI2 hr1).mono ?_
  rintro e wn ⟨v, rfl, rfl, hr2, hu⟩
  clear HCT hp hI2 hr1
  clear y0 f0 f1 f2 f3 f4 f5 f6
  replace hb0 := hb0.upd hu (by omega)
  replace hR := hR.upd hu (by omega)
  replace hX := hX.upd hu (by omega)
  replace hF := hF.upd hu (by omega)
  replace hU := hU.trans hu
  clear hu
  have x3 := hX.cell 3
  have fx3 := hX.frozen 3
  have x4 := hX.cell 4
  have fx4 := hX.frozen 4
  have x5 := hX.cell 5
  have fx5 := hX.frozen 5
  have x6 := hX.cell 6
  have fx6 := hX.frozen 6
  have x7 := hX.cell 7
  have fx7 := hX.frozen 7
  have x8 := hX.cell 8
  have fx8 := hX.frozen 8
  simp at x3 x4 x5 x6 x7 x8
  go_upto_region 11 with fail
  replace hX := ((((((hX.set_ 3 (.int .i64 tr.id)).set_ 4 (str tr.buyer)).set_ 5 (str tr.seller)).set_ 6 (str tr.isin)).set_ 7 (.int .i64 tr.qty)).set_ 8 (.int .i64 tr.price))
  replace hb0 := ((((((hb0.far (p := ⟨X, 3, none⟩) n3 (.int .i64 tr.id)).far (p := ⟨X, 4, none⟩) n3 (str tr.buyer)).far (p := ⟨X, 5, none⟩) n3 (str tr.seller)).far (p := ⟨X, 6, none⟩) n3 (str tr.isin)).far (p := ⟨X, 7, none⟩) n3 (.int .i64 tr.qty)).far (p := ⟨X, 8, none⟩) n3 (.int .i64 tr.price))
  replace hR := ((((((hR.far (p := ⟨X, 3, none⟩) n5 (.int .i64 tr.id)).far (p := ⟨X, 4, none⟩) n5 (str tr.buyer)).far (p := ⟨X, 5, none⟩) n5 (str tr.seller)).far (p := ⟨X, 6, none⟩) n5 (str tr.isin)).far (p := ⟨X, 7, none⟩) n5 (.int .i64 tr.qty)).far (p := ⟨X, 8, none⟩) n5 (.int .i64 tr.price))
  replace hF := ((((((hF.far (p := ⟨X, 3, none⟩) (Ne.symm n7) (.int .i64 tr.id)).far (p := ⟨X, 4, none⟩) (Ne.symm n7) (str tr.buyer)).far (p := ⟨X, 5, none⟩) (Ne.symm n7) (str tr.seller)).far (p := ⟨X, 6, none⟩) (Ne.symm n7) (str tr.isin)).far (p := ⟨X, 7, none⟩) (Ne.symm n7) (.int .i64 tr.qty)).far (p := ⟨X, 8, none⟩) (Ne.symm n7) (.int .i64 tr.price))
  have hr1 := ((((((hr2.far (i := 3) n8 i1 (.int .i64 tr.id)).far (i := 4) n8 i1 (str tr.buyer)).far (i := 5) n8 i1 (str tr.seller)).far (i := 6) n8 i1 (str tr.isin)).far (i := 7) n8 i1 (.int .i64 tr.qty)).far (i := 8) n8 i1 (.int .i64 tr.price))
  replace hU := ((((((hU.new1 (i := 3) n10 (.int .i64 tr.id)).new1 (i := 4) n10 (str tr.buyer)).new1 (i := 5) n10 (str tr.seller)).new1 (i := 6) n10 (str tr.isin)).new1 (i := 7) n10 (.int .i64 tr.qty)).new1 (i := 8) n10 (.int .i64 tr.price))
  clear hr2 x3 fx3 x4 fx4 x5 fx5 x6 fx6 x7 fx7 x8 fx8
  simp at hX
  refine wp_abs (fun wx hwx => ?_)
  rw [← hwx] at hb0 hR hX hF hr1 hU
  clear hwx
  have y0 := hb0.cell 0
  have f0 := hF.cell 0
  have f1 := hF.cell 1
  have f2 := hF.cell 2
  have f3 := hF.cell 3
  have f4 := hF.cell 4
  have f5 := hF.cell 5
  have f6 := hF.cell 6
  simp at y0 f0 f1 f2 f3 f4 f5 f6
  go_upto_region 19 with fail
  clear y0 f0 f1 f2 f3 f4 f5 f6
  have x0 := hX.cell 0
  have x1 := hX.cell 1
  have x2 := hX.cell 2
  have x3 := hX.cell 3
  have x4 := hX.cell 4
  have x5 := hX.cell 5
  have x6 := hX.cell 6
  have x7 := hX.cell 7
  have x8 := hX.cell 8
  have x9 := hX.cell 9
  have x10 := hX.cell 10
  have x11 := hX.cell 11
  have x12 := hX.cell 12
  have x13 := hX.cell 13
  have z0 := hR.cell 0
  have z1 := hR.cell 1
  have z2 := hR.cell 2
  have z3 := hR.cell 3
  have z4 := hR.cell 4
  have z5 := hR.cell 5
  have z6 := hR.cell 6
  have z7 := hR.cell 7
  have z8 := hR.cell 8
  have z9 := hR.cell 9
  have z10 := hR.cell 10
  have z11 := hR.cell 11
  have z12 := hR.cell 12
  have z13 := hR.cell 13
  have fz0 := hR.frozen 0
  have fz1 := hR.frozen 1
  have fz2 := hR.frozen 2
  have fz3 := hR.frozen 3
  have fz4 := hR.frozen 4
  have fz5 := hR.frozen 5
  have fz6 := hR.frozen 6
  have fz7 := hR.frozen 7
  have fz8 := hR.frozen 8
  have fz9 := hR.frozen 9
  have fz10 := hR.frozen 10
  have fz11 := hR.frozen 11
  have fz12 := hR.frozen 12
  have fz13 := hR.frozen 13
  simp at x0 z0 x1 z1 x2 z2 x3 z3 x4 z4 x5 z5 x6 z6 x7 z7 x8 z8 x9 z9 x10 z10 x11 z11 x12 z12 x13 z13
  go_wp2
  clear x0 z0 fz0 x1 z1 fz1 x2 z2 fz2 x3 z3 fz3 x4 z4 fz4 x5 z5 fz5 x6 z6 fz6 x7 z7 fz7 x8 z8 fz8 x9 z9 fz9 x10 z10 fz10 x11 z11 fz11 x12 z12 fz12 x13 z13 fz13
  have hR2 := ((((((((((((((hR.set_ 0 (.int .i64 (k : Int))).set_ 1 (.int .i64 0)).set_ 2 (.int .i64 0)).set_ 3 (.int .i64 tr.id)).set_ 4 (str tr.buyer)).set_ 5 (str tr.seller)).set_ 6 (str tr.isin)).set_ 7 (.int .i64 tr.qty)).set_ 8 (.int .i64 tr.price)).set_ 9 (.string ⟨#[]⟩)).set_ 10 (.int .i64 0)).set_ 11 (.slice none 0 0)).set_ 12 (.int .i64 0)).set_ 13 (.int .u64 0))
  have hr2 := ((((((((((((((hr1.far (i := 0) n9 i2 (.int .i64 (k : Int))).far (i := 1) n9 i2 (.int .i64 0)).far (i := 2) n9 i2 (.int .i64 0)).far (i := 3) n9 i2 (.int .i64 tr.id)).far (i := 4) n9 i2 (str tr.buyer)).far (i := 5) n9 i2 (str tr.seller)).far (i := 6) n9 i2 (str tr.isin)).far (i := 7) n9 i2 (.int .i64 tr.qty)).far (i := 8) n9 i2 (.int .i64 tr.price)).far (i := 9) n9 i2 (.string ⟨#[]⟩)).far (i := 10) n9 i2 (.int .i64 0)).far (i := 11) n9 i2 (.slice none 0 0)).far (i := 12) n9 i2 (.int .i64 0)).far (i := 13) n9 i2 (.int .u64 0))
  have hU2 := ((((((((((((((hU.new1 (i := 0) n11 (.int .i64 (k : Int))).new1 (i := 1) n11 (.int .i64 0)).new1 (i := 2) n11 (.int .i64 0)).new1 (i := 3) n11 (.int .i64 tr.id)).new1 (i := 4) n11 (str tr.buyer)).new1 (i := 5) n11 (str tr.seller)).new1 (i := 6) n11 (str tr.isin)).new1 (i := 7) n11 (.int .i64 tr.qty)).new1 (i := 8) n11 (.int .i64 tr.price)).new1 (i := 9) n11 (.string ⟨#[]⟩)).new1 (i := 10) n11 (.int .i64 0)).new1 (i := 11) n11 (.slice none 0 0)).new1 (i := 12) n11 (.int .i64 0)).new1 (i := 13) n11 (.int .u64 0))
  simp at hR2
  refine bp_abs (fun wx hwx => ?_)
  rw [← hwx] at hR2 hr2 hU2
  clear hwx
  have z0 := hR2.cell 0
  have z1 := hR2.cell 1
  have z2 := hR2.cell 2
  have z3 := hR2.cell 3
  have z4 := hR2.cell 4
  have z5 := hR2.cell 5
  have z6 := hR2.cell 6
  have z7 := hR2.cell 7
  have z8 := hR2.cell 8
  have z9 := hR2.cell 9
  have z10 := hR2.cell 10
  have z11 := hR2.cell 11
  have z12 := hR2.cell 12
  have z13 := hR2.cell 13
  simp at z0 z1 z2 z3 z4 z5 z6 z7 z8 z9 z10 z11 z12 z13
  have hq := HQ.out
  subst hq
  clear HQ
  refine bodyPost_ret (v := .agg (ntA ⟨k, 0, 0, tr, [], 0, [], 0, 0⟩ none 0)) (by simp [results, Tryd.results9, go_sem, z0, z1, z2, z3, z4, z5, z6, z7, z8, z9, z10, z11, z12, z13]) rfl ?_
  exact ⟨_, rfl, ⟨_, _, rfl, Rd.nil_⟩, hr2, hU2⟩

set_option maxRecDepth 100000 in
set_option maxHeartbeats 4000000 in
theorem note_none (g : Nat) (s : RS) (w : World) (I : Nat → Prop) (hI : ∀ k, I k → k < w.heap.size) (h : RdrAt w I g s) (hk : isKind (rKind s).1 = true) (hf : formOf (rKind s).1 = ⟨false, false, false, false, false, false, false⟩) :
    Calls Tryd.prog 9 #[.agg #[.pointer (some ⟨g, 0, none⟩)]] w (RPost I g w (rNote s).2 (VNote w.heap.size (rNote s).1)) := by
  have hg := h.lt
  have hkl := rKind_lt s
  obtain ⟨q, hq⟩ : ∃ q, rNote s = q := ⟨_, rfl⟩
  rw [hq]
  have hforms := forms_any (rKind s).1
  rw [hk, hf] at hforms
  have hct : ∀ w, RdrAt w I g s → Calls Tryd.prog 15 #[.pointer (some ⟨g, 0, none⟩)] w (RPost I g w (rKind s).2 (fun v _ => v = .int .u8 ((rKind s).1 : Int))) := fun w h => byte_any g s w I h
  rw [show rNote s = rNote s from rfl] at hq
  unfold rNote at hq
  simp only [hk, hf, opt, if_true, Bool.false_eq_true, if_false] at hq
  generalize rKind s = ks at *
  obtain ⟨k, s1⟩ := ks
  have HQ := Lib.hid hq
  have HFo := Lib.hid hforms
  have HCT := Lib.hid hct
  clear hq hforms hct hk hf
  have hb0 := (Blk.new w 40 #[.pointer (some ⟨g, 0, none⟩)]).alloc (.cells #[.int .i64 0, .int .i64 0, .int .i64 0, .int .i64 0, .string ⟨#[]⟩, .string ⟨#[]⟩, .string ⟨#[]⟩, .int .i64 0, .int .i64 0, .string ⟨#[]⟩, .int .i64 0, .slice none 0 0, .int .i64 0, .int .u64 0] 30)
  have hR := Blk.new (w.alloc (.cells #[.pointer (some ⟨g, 0, none⟩)] 40)) 30 #[.int .i64 0, .int .i64 0, .int .i64 0, .int .i64 0, .string ⟨#[]⟩, .string ⟨#[]⟩, .string ⟨#[]⟩, .int .i64 0, .int .i64 0, .string ⟨#[]⟩, .int .i64 0, .slice none 0 0, .int .i64 0, .int .u64 0]
  rw [World.size_alloc] at hR
  have hr := h.upd (((Upd.refl none_ w).alloc (.cells #[.pointer (some ⟨g, 0, none⟩)] 40)).alloc (.cells #[.int .i64 0, .int .i64 0, .int .i64 0, .int .i64 0, .string ⟨#[]⟩, .string ⟨#[]⟩, .string ⟨#[]⟩, .int .i64 0, .int .i64 0, .string ⟨#[]⟩, .int .i64 0, .slice none 0 0, .int .i64 0, .int .u64 0] 30)) (fun h => h) (fun _ h => h.elim)
  have hU : Upd (· = g) w ((w.alloc (.cells #[.pointer (some ⟨g, 0, none⟩)] 40)).alloc (.cells #[.int .i64 0, .int .i64 0, .int .i64 0, .int .i64 0, .string ⟨#[]⟩, .string ⟨#[]⟩, .string ⟨#[]⟩, .int .i64 0, .int .i64 0, .string ⟨#[]⟩, .int .i64 0, .slice none 0 0, .int .i64 0, .int .u64 0] 30)) := ((Upd.refl _ w).alloc _).alloc _
  go_enter Tryd.func9, Tryd.ntmps9
  go_wp2_with fail
  refine (HCT.out _ hr).mono ?_
  rintro e w1 ⟨v, rfl, rfl, hr1, hu1⟩
  replace hb0 := hb0.upd hu1 (by omega)
  replace hR := hR.upd hu1 (by omega)
  replace hU := hU.trans hu1
  clear hr hu1 HCT
  have hk64 : -9223372036854775808 ≤ (k : Int) ∧ (k : Int) ≤ 9223372036854775807 := by omega
  go_wp2_with fail
  refine (HFo.out _).mono ?_
  rintro e w2 ⟨rfl, hu2⟩
  clear hk64 HFo
  have n1 := hR.lt
  have hX2 := (Blk.new w1 30 #[.int .i64 (k : Int), .int .i64 0, .int .i64 0, .int .i64 0, .string ⟨#[]⟩, .string ⟨#[]⟩, .string ⟨#[]⟩, .int .i64 0, .int .i64 0, .string ⟨#[]⟩, .int .i64 0, .slice none 0 0, .int .i64 0, .int .u64 0]).upd hu2 (fun h => h)
  have n2 := hX2.lt
  have hX := hX2.alloc (.cells (fmA ⟨false, false, false, false, false, false, false⟩) 56)
  replace hb0 := ((hb0.alloc _).upd hu2 (fun h => h)).alloc (.cells (fmA ⟨false, false, false, false, false, false, false⟩) 56)
  replace hR := ((hR.alloc _).upd hu2 (fun h => h)).alloc (.cells (fmA ⟨false, false, false, false, false, false, false⟩) 56)
  have hF := Blk.new w2 56 (fmA ⟨false, false, false, false, false, false, false⟩)
  replace hr1 := (hr1.upd (((Upd.refl none_ w1).alloc _).trans hu2) (fun h => h) (fun _ h => h.elim)).upd ((Upd.refl none_ w2).alloc (.cells (fmA ⟨false, false, false, false, false, false, false⟩) 56)) (fun h => h) (fun _ h => h.elim)
  replace hU := ((hU.alloc _).trans (hu2.mono (fun _ h => h.elim))).alloc (.cells (fmA ⟨false, false, false, false, false, false, false⟩) 56)
  clear hX2 hu2 h hkl
  go_upto_region 3 with fail
  refine wp_abs (fun w3 hw3 => ?_)
  rw [← hw3] at hb0 hR hX hF hr1 hU
  clear hw3
  generalize hXn : w1.heap.size = X at *
  generalize hYn : w2.heap.size = Y at *
  clear hXn hYn
  have n3 : w.heap.size ≠ X := by omega
  have n4 : w.heap.size ≠ Y := by omega
  have n5 : w.heap.size + 1 ≠ X := by omega
  have n6 : w.heap.size + 1 ≠ Y := by omega
  have n7 : X ≠ Y := by omega
  have n8 : g ≠ X := by omega
  have n9 : g ≠ w.heap.size + 1 := by omega
  have n12 : g ≠ Y := by omega
  have n10 : w.heap.size ≤ X := by omega
  have n11 : w.heap.size ≤ w.heap.size + 1 := by omega
  have i1 : ¬ I X := fun h => by have := hI _ h; omega
  have i2 : ¬ I (w.heap.size + 1) := fun h => by have := hI _ h; omega
  have i3 : ∀ k, k = g → ¬ I k → ¬ I k := fun _ _ h => h
  clear n1 n2
  have y0 := hb0.cell 0
  have f0 := hF.cell 0
  have f1 := hF.cell 1
  have f2 := hF.cell 2
  have f3 := hF.cell 3
  have f4 := hF.cell 4
  have f5 := hF.cell 5
  have f6 := hF.cell 6
  simp at y0 f0 f1 f2 f3 f4 f5 f6
  go_upto_region 19 with fail
  clear y0 f0 f1 f2 f3 f4 f5 f6
  have x0 := hX.cell 0
  have x1 := hX.cell 1
  have x2 := hX.cell 2
  have x3 := hX.cell 3
  have x4 := hX.cell 4
  have x5 := hX.cell 5
  have x6 := hX.cell 6
  have x7 := hX.cell 7
  have x8 := hX.cell 8
  have x9 := hX.cell 9
  have x10 := hX.cell 10
  have x11 := hX.cell 11
  have x12 := hX.cell 12
  have x13 := hX.cell 13
  have z0 := hR.cell 0
  have z1 := hR.cell 1
  have z2 := hR.cell 2
  have z3 := hR.cell 3
  have z4 := hR.cell 4
  have z5 := hR.cell 5
  have z6 := hR.cell 6
  have z7 := hR.cell 7
  have z8 := hR.cell 8
  have z9 := hR.cell 9
  have z10 := hR.cell 10
  have z11 := hR.cell 11
  have z12 := hR.cell 12
  have z13 := hR.cell 13
  have fz0 := hR.frozen 0
  have fz1 := hR.frozen 1
  have fz2 := hR.frozen 2
  have fz3 := hR.frozen 3
  have fz4 := hR.frozen 4
  have fz5 := hR.frozen 5
  have fz6 := hR.frozen 6
  have fz7 := hR.frozen 7
  have fz8 := hR.frozen 8
  have fz9 := hR.frozen 9
  have fz10 := hR.frozen 10
  have fz11 := hR.frozen 11
  have fz12 := hR.frozen 12
  have fz13 := hR.frozen 13
  simp at x0 z0 x1 z1 x2 z2 x3 z3 x4 z4 x5 z5 x6 z6 x7 z7 x8 z8 x9 z9 x10 z10 x11 z11 x12 z12 x13 z13
  go_wp2
  clear x0 z0 fz0 x1 z1 fz1 x2 z2 fz2 x3 z3 fz3 x4 z4 fz4 x5 z5 fz5 x6 z6 fz6 x7 z7 fz7 x8 z8 fz8 x9 z9 fz9 x10 z10 fz10 x11 z11 fz11 x12 z12 fz12 x13 z13 fz13
  have hR2 := ((((((((((((((hR.set_ 0 (.int .i64 (k : Int))).set_ 1 (.int .i64 0)).set_ 2 (.int .i64 0)).set_ 3 (.int .i64 0)).set_ 4 (.string ⟨#[]⟩)).set_ 5 (.string ⟨#[]⟩)).set_ 6 (.string ⟨#[]⟩)).set_ 7 (.int .i64 0)).set_ 8 (.int .i64 0)).set_ 9 (.string ⟨#[]⟩)).set_ 10 (.int .i64 0)).set_ 11 (.slice none 0 0)).set_ 12 (.int .i64 0)).set_ 13 (.int .u64 0))
  have hr2 := ((((((((((((((hr1.far (i := 0) n9 i2 (.int .i64 (k : Int))).far (i := 1) n9 i2 (.int .i64 0)).far (i := 2) n9 i2 (.int .i64 0)).far (i := 3) n9 i2 (.int .i64 0)).far (i := 4) n9 i2 (.string ⟨#[]⟩)).far (i := 5) n9 i2 (.string ⟨#[]⟩)).far (i := 6) n9 i2 (.string ⟨#[]⟩)).far (i := 7) n9 i2 (.int .i64 0)).far (i := 8) n9 i2 (.int .i64 0)).far (i := 9) n9 i2 (.string ⟨#[]⟩)).far (i := 10) n9 i2 (.int .i64 0)).far (i := 11) n9 i2 (.slice none 0 0)).far (i := 12) n9 i2 (.int .i64 0)).far (i := 13) n9 i2 (.int .u64 0))
  have hU2 := ((((((((((((((hU.new1 (i := 0) n11 (.int .i64 (k : Int))).new1 (i := 1) n11 (.int .i64 0)).new1 (i := 2) n11 (.int .i64 0)).new1 (i := 3) n11 (.int .i64 0)).new1 (i := 4) n11 (.string ⟨#[]⟩)).new1 (i := 5) n11 (.string ⟨#[]⟩)).new1 (i := 6) n11 (.string ⟨#[]⟩)).new1 (i := 7) n11 (.int .i64 0)).new1 (i := 8) n11 (.int .i64 0)).new1 (i := 9) n11 (.string ⟨#[]⟩)).new1 (i := 10) n11 (.int .i64 0)).new1 (i := 11) n11 (.slice none 0 0)).new1 (i := 12) n11 (.int .i64 0)).new1 (i := 13) n11 (.int .u64 0))
  simp at hR2
  refine bp_abs (fun wx hwx => ?_)
  rw [← hwx] at hR2 hr2 hU2
  clear hwx
  have z0 := hR2.cell 0
  have z1 := hR2.cell 1
  have z2 := hR2.cell 2
  have z3 := hR2.cell 3
  have z4 := hR2.cell 4
  have z5 := hR2.cell 5
  have z6 := hR2.cell 6
  have z7 := hR2.cell 7
  have z8 := hR2.cell 8
  have z9 := hR2.cell 9
  have z10 := hR2.cell 10
  have z11 := hR2.cell 11
  have z12 := hR2.cell 12
  have z13 := hR2.cell 13
  simp at z0 z1 z2 z3 z4 z5 z6 z7 z8 z9 z10 z11 z12 z13
  have hq := HQ.out
  subst hq
  clear HQ
  refine bodyPost_ret (v := .agg (ntA ⟨k, 0, 0, trZero, [], 0, [], 0, 0⟩ none 0)) (by simp [results, Tryd.results9, go_sem, z0, z1, z2, z3, z4, z5, z6, z7, z8, z9, z10, z11, z12, z13, trZero]) rfl ?_
  exact ⟨_, rfl, ⟨_, _, rfl, Rd.nil_⟩, hr2, hU2⟩

set_option maxRecDepth 100000 in
set_option maxHeartbeats 4000000 in
theorem note_na (g : Nat) (s : RS) (w : World) (I : Nat → Prop) (hI : ∀ k, I k → k < w.heap.size) (h : RdrAt w I g s) (hk : isKind (rKind s).1 = true) (hf : formOf (rKind s).1 = ⟨false, false, false, true, true, false, false⟩) :
    Calls Tryd.prog 9 #[.agg #[.pointer (some ⟨g, 0, none⟩)]] w (RPost I g w (rNote s).2 (VNote w.heap.size (rNote s).1)) := by
  have hg := h.lt
  have hkl := rKind_lt s
  obtain ⟨q, hq⟩ : ∃ q, rNote s = q := ⟨_, rfl⟩
  rw [hq]
  have hforms := forms_any (rKind s).1
  rw [hk, hf] at hforms
  have hct : ∀ w, RdrAt w I g s → Calls Tryd.prog 15 #[.pointer (some ⟨g, 0, none⟩)] w (RPost I g w (rKind s).2 (fun v _ => v = .int .u8 ((rKind s).1 : Int))) := fun w h => byte_any g s w I h
  rw [show rNote s = rNote s from rfl] at hq
  unfold rNote at hq
  simp only [hk, hf, opt, if_true, Bool.false_eq_true, if_false] at hq
  generalize rKind s = ks at *
  obtain ⟨k, s1⟩ := ks
  have HQ := Lib.hid hq
  have HFo := Lib.hid hforms
  have HCT := Lib.hid hct
  clear hq hforms hct hk hf
  have hb0 := (Blk.new w 40 #[.pointer (some ⟨g, 0, none⟩)]).alloc (.cells #[.int .i64 0, .int .i64 0, .int .i64 0, .int .i64 0, .string ⟨#[]⟩, .string ⟨#[]⟩, .string ⟨#[]⟩, .int .i64 0, .int .i64 0, .string ⟨#[]⟩, .int .i64 0, .slice none 0 0, .int .i64 0, .int .u64 0] 30)
  have hR := Blk.new (w.alloc (.cells #[.pointer (some ⟨g, 0, none⟩)] 40)) 30 #[.int .i64 0, .int .i64 0, .int .i64 0, .int .i64 0, .string ⟨#[]⟩, .string ⟨#[]⟩, .string ⟨#[]⟩, .int .i64 0, .int .i64 0, .string ⟨#[]⟩, .int .i64 0, .slice none 0 0, .int .i64 0, .int .u64 0]
  rw [World.size_alloc] at hR
  have hr := h.upd (((Upd.refl none_ w).alloc (.cells #[.pointer (some ⟨g, 0, none⟩)] 40)).alloc (.cells #[.int .i64 0, .int .i64 0, .int .i64 0, .int .i64 0, .string ⟨#[]⟩, .string ⟨#[]⟩, .string ⟨#[]⟩, .int .i64 0, .int .i64 0, .string ⟨#[]⟩, .int .i64 0, .slice none 0 0, .int .i64 0, .int .u64 0] 30)) (fun h => h) (fun _ h => h.elim)
  have hU : Upd (· = g) w ((w.alloc (.cells #[.pointer (some ⟨g, 0, none⟩)] 40)).alloc (.cells #[.int .i64 0, .int .i64 0, .int .i64 0, .int .i64 0, .string ⟨#[]⟩, .string ⟨#[]⟩, .string ⟨#[]⟩, .int .i64 0, .int .i64 0, .string ⟨#[]⟩, .int .i64 0, .slice none 0 0, .int .i64 0, .int .u64 0] 30)) := ((Upd.refl _ w).alloc _).alloc _
  go_enter Tryd.func9, Tryd.ntmps9
  go_wp2_with fail
  refine (HCT.out _ hr).mono ?_
  rintro e w1 ⟨v, rfl, rfl, hr1, hu1⟩
  replace hb0 := hb0.upd hu1 (by omega)
  replace hR := hR.upd hu1 (by omega)
  replace hU := hU.trans hu1
  clear hr hu1 HCT
  have hk64 : -9223372036854775808 ≤ (k : Int) ∧ (k : Int) ≤ 9223372036854775807 := by omega
  go_wp2_with fail
  refine (HFo.out _).mono ?_
  rintro e w2 ⟨rfl, hu2⟩
  clear hk64 HFo
  have n1 := hR.lt
  have hX2 := (Blk.new w1 30 #[.int .i64 (k : Int), .int .i64 0, .int .i64 0, .int .i64 0, .string ⟨#[]⟩, .string ⟨#[]⟩, .string ⟨#[]⟩, .int .i64 0, .int .i64 0, .string ⟨#[]⟩, .int .i64 0, .slice none 0 0, .int .i64 0, .int .u64 0]).upd hu2 (fun h => h)
  have n2 := hX2.lt
  have hX := hX2.alloc (.cells (fmA ⟨false, false, false, true, true, false, false⟩) 56)
  replace hb0 := ((hb0.alloc _).upd hu2 (fun h => h)).alloc (.cells (fmA ⟨false, false, false, true, true, false, false⟩) 56)
  replace hR := ((hR.alloc _).upd hu2 (fun h => h)).alloc (.cells (fmA ⟨false, false, false, true, true, false, false⟩) 56)
  have hF := Blk.new w2 56 (fmA ⟨false, false, false, true, true, false, false⟩)
  replace hr1 := (hr1.upd (((Upd.refl none_ w1).alloc _).trans hu2) (fun h => h) (fun _ h => h.elim)).upd ((Upd.refl none_ w2).alloc (.cells (fmA ⟨false, false, false, true, true, false, false⟩) 56)) (fun h => h) (fun _ h => h.elim)
  replace hU := ((hU.alloc _).trans (hu2.mono (fun _ h => h.elim))).alloc (.cells (fmA ⟨false, false, false, true, true, false, false⟩) 56)
  clear hX2 hu2 h hkl
  go_upto_region 3 with fail
  refine wp_abs (fun w3 hw3 => ?_)
  rw [← hw3] at hb0 hR hX hF hr1 hU
  clear hw3
  generalize hXn : w1.heap.size = X at *
  generalize hYn : w2.heap.size = Y at *
  clear hXn hYn
  have n3 : w.heap.size ≠ X := by omega
  have n4 : w.heap.size ≠ Y := by omega
  have n5 : w.heap.size + 1 ≠ X := by omega
  have n6 : w.heap.size + 1 ≠ Y := by omega
  have n7 : X ≠ Y := by omega
  have n8 : g ≠ X := by omega
  have n9 : g ≠ w.heap.size + 1 := by omega
  have n12 : g ≠ Y := by omega
  have n10 : w.heap.size ≤ X := by omega
  have n11 : w.heap.size ≤ w.heap.size + 1 := by omega
  have i1 : ¬ I X := fun h => by have := hI _ h; omega
  have i2 : ¬ I (w.heap.size + 1) := fun h => by have := hI _ h; omega
  have i3 : ∀ k, k = g → ¬ I k → ¬ I k := fun _ _ h => h
  clear n1 n2
  have y0 := hb0.cell 0
  have f0 := hF.cell 0
  have f1 := hF.cell 1
  have f2 := hF.cell 2
  have f3 := hF.cell 3
  have f4 := hF.cell 4
  have f5 := hF.cell 5
  have f6 := hF.cell 6
  simp at y0 f0 f1 f2 f3 f4 f5 f6
  obtain ⟨p, hp⟩ : ∃ p, rText 12 s1 = p := ⟨_, rfl⟩
  have HQ2 := HQ.out
  rw [hp] at HQ2
  have hsz := hU.size
  have hI2 : ∀ W : World, w.heap.size ≤ W.heap.size → ∀ k, I k → k < W.heap.size := fun W h k hk => Nat.lt_of_lt_of_le (hI k hk) h
  replace hI2 := hI2 _ hsz
  have hct := fun (W : World) (hI2 : ∀ k, I k → k < W.heap.size) (hr1 : RdrAt W I g s1) => text_any g s1 12 W I hr1
  rw [hp] at hct
  have HCT := Lib.hid hct
  clear hct
  clear HQ
  have HQ := Lib.hid HQ2
  clear HQ2
  obtain ⟨na, s_na⟩ := p
  go_wp2_with fail
  refine (HCT.out _ hI2 hr1).mono ?_
  rintro e wn ⟨v, rfl, rfl, hr2, hu⟩
  clear HCT hp hI2 hr1
  clear y0 f0 f1 f2 f3 f4 f5 f6
  replace hb0 := hb0.upd hu (by omega)
  replace hR := hR.upd hu (by omega)
  replace hX := hX.upd hu (by omega)
  replace hF := hF.upd hu (by omega)
  replace hU := hU.trans hu
  clear hu
  have x9 := hX.cell 9
  have fx9 := hX.frozen 9
  simp at x9
  go_upto_region 13 with fail
  replace hX := (hX.set_ 9 (str na))
  replace hb0 := (hb0.far (p := ⟨X, 9, none⟩) n3 (str na))
  replace hR := (hR.far (p := ⟨X, 9, none⟩) n5 (str na))
  replace hF := (hF.far (p := ⟨X, 9, none⟩) (Ne.symm n7) (str na))
  have hr1 := (hr2.far (i := 9) n8 i1 (str na))
  replace hU := (hU.new1 (i := 9) n10 (str na))
  clear hr2 x9 fx9
  simp at hX
  refine wp_abs (fun wx hwx => ?_)
  rw [← hwx] at hb0 hR hX hF hr1 hU
  clear hwx
  have y0 := hb0.cell 0
  have f0 := hF.cell 0
  have f1 := hF.cell 1
  have f2 := hF.cell 2
  have f3 := hF.cell 3
  have f4 := hF.cell 4
  have f5 := hF.cell 5
  have f6 := hF.cell 6
  simp at y0 f0 f1 f2 f3 f4 f5 f6
  obtain ⟨p, hp⟩ : ∃ p, rNumber s_na = p := ⟨_, rfl⟩
  have HQ2 := HQ.out
  rw [hp] at HQ2
  have hsz := hU.size
  have hI2 : ∀ W : World, w.heap.size ≤ W.heap.size → ∀ k, I k → k < W.heap.size := fun W h k hk => Nat.lt_of_lt_of_le (hI k hk) h
  replace hI2 := hI2 _ hsz
  have hct := fun (W : World) (hI2 : ∀ k, I k → k < W.heap.size) (hr1 : RdrAt W I g s_na) => number_any g s_na W I hr1
  rw [hp] at hct
  have HCT := Lib.hid hct
  clear hct
  clear HQ
  have HQ := Lib.hid HQ2
  clear HQ2
  obtain ⟨am, s_am⟩ := p
  go_wp2_with fail
  refine (HCT.out _ hI2 hr1).mono ?_
  rintro e wn ⟨v, rfl, rfl, hr2, hu⟩
  clear HCT hp hI2 hr1
  clear y0 f0 f1 f2 f3 f4 f5 f6
  replace hb0 := hb0.upd hu (by omega)
  replace hR := hR.upd hu (by omega)
  replace hX := hX.upd hu (by omega)
  replace hF := hF.upd hu (by omega)
  replace hU := hU.trans hu
  clear hu
  have x10 := hX.cell 10
  have fx10 := hX.frozen 10
  simp at x10
  go_upto_region 15 with fail
  replace hX := (hX.set_ 10 (.int .i64 am))
  replace hb0 := (hb0.far (p := ⟨X, 10, none⟩) n3 (.int .i64 am))
  replace hR := (hR.far (p := ⟨X, 10, none⟩) n5 (.int .i64 am))
  replace hF := (hF.far (p := ⟨X, 10, none⟩) (Ne.symm n7) (.int .i64 am))
  have hr1 := (hr2.far (i := 10) n8 i1 (.int .i64 am))
  replace hU := (hU.new1 (i := 10) n10 (.int .i64 am))
  clear hr2 x10 fx10
  simp at hX
  refine wp_abs (fun wx hwx => ?_)
  rw [← hwx] at hb0 hR hX hF hr1 hU
  clear hwx
  have y0 := hb0.cell 0
  have f0 := hF.cell 0
  have f1 := hF.cell 1
  have f2 := hF.cell 2
  have f3 := hF.cell 3
  have f4 := hF.cell 4
  have f5 := hF.cell 5
  have f6 := hF.cell 6
  simp at y0 f0 f1 f2 f3 f4 f5 f6
  go_upto_region 19 with fail
  clear y0 f0 f1 f2 f3 f4 f5 f6
  have x0 := hX.cell 0
  have x1 := hX.cell 1
  have x2 := hX.cell 2
  have x3 := hX.cell 3
  have x4 := hX.cell 4
  have x5 := hX.cell 5
  have x6 := hX.cell 6
  have x7 := hX.cell 7
  have x8 := hX.cell 8
  have x9 := hX.cell 9
  have x10 := hX.cell 10
  have x11 := hX.cell 11
  have x12 := hX.cell 12
  have x13 := hX.cell 13
  have z0 := hR.cell 0
  have z1 := hR.cell 1
  have z2 := hR.cell 2
  have z3 := hR.cell 3
  have z4 := hR.cell 4
  have z5 := hR.cell 5
  have z6 := hR.cell 6
  have z7 := hR.cell 7
  have z8 := hR.cell 8
  have z9 := hR.cell 9
  have z10 := hR.cell 10
  have z11 := hR.cell 11
  have z12 := hR.cell 12
  have z13 := hR.cell 13
  have fz0 := hR.frozen 0
  have fz1 := hR.frozen 1
  have fz2 := hR.frozen 2
  have fz3 := hR.frozen 3
  have fz4 := hR.frozen 4
  have fz5 := hR.frozen 5
  have fz6 := hR.frozen 6
  have fz7 := hR.frozen 7
  have fz8 := hR.frozen 8
  have fz9 := hR.frozen 9
  have fz10 := hR.frozen 10
  have fz11 := hR.frozen 11
  have fz12 := hR.frozen 12
  have fz13 := hR.frozen 13
  simp at x0 z0 x1 z1 x2 z2 x3 z3 x4 z4 x5 z5 x6 z6 x7 z7 x8 z8 x9 z9 x10 z10 x11 z11 x12 z12 x13 z13
  go_wp2
  clear x0 z0 fz0 x1 z1 fz1 x2 z2 fz2 x3 z3 fz3 x4 z4 fz4 x5 z5 fz5 x6 z6 fz6 x7 z7 fz7 x8 z8 fz8 x9 z9 fz9 x10 z10 fz10 x11 z11 fz11 x12 z12 fz12 x13 z13 fz13
  have hR2 := ((((((((((((((hR.set_ 0 (.int .i64 (k : Int))).set_ 1 (.int .i64 0)).set_ 2 (.int .i64 0)).set_ 3 (.int .i64 0)).set_ 4 (.string ⟨#[]⟩)).set_ 5 (.string ⟨#[]⟩)).set_ 6 (.string ⟨#[]⟩)).set_ 7 (.int .i64 0)).set_ 8 (.int .i64 0)).set_ 9 (str na)).set_ 10 (.int .i64 am)).set_ 11 (.slice none 0 0)).set_ 12 (.int .i64 0)).set_ 13 (.int .u64 0))
  have hr2 := ((((((((((((((hr1.far (i := 0) n9 i2 (.int .i64 (k : Int))).far (i := 1) n9 i2 (.int .i64 0)).far (i := 2) n9 i2 (.int .i64 0)).far (i := 3) n9 i2 (.int .i64 0)).far (i := 4) n9 i2 (.string ⟨#[]⟩)).far (i := 5) n9 i2 (.string ⟨#[]⟩)).far (i := 6) n9 i2 (.string ⟨#[]⟩)).far (i := 7) n9 i2 (.int .i64 0)).far (i := 8) n9 i2 (.int .i64 0)).far (i := 9) n9 i2 (str na)).far (i := 10) n9 i2 (.int .i64 am)).far (i := 11) n9 i2 (.slice none 0 0)).far (i := 12) n9 i2 (.int .i64 0)).far (i := 13) n9 i2 (.int .u64 0))
  have hU2 := ((((((((((((((hU.new1 (i := 0) n11 (.int .i64 (k : Int))).new1 (i := 1) n11 (.int .i64 0)).new1 (i := 2) n11 (.int .i64 0)).new1 (i := 3) n11 (.int .i64 0)).new1 (i := 4) n11 (.string ⟨#[]⟩)).new1 (i := 5) n11 (.string ⟨#[]⟩)).new1 (i := 6) n11 (.string ⟨#[]⟩)).new1 (i := 7) n11 (.int .i64 0)).new1 (i := 8) n11 (.int .i64 0)).new1 (i := 9) n11 (str na)).new1 (i := 10) n11 (.int .i64 am)).new1 (i := 11) n11 (.slice none 0 0)).new1 (i := 12) n11 (.int .i64 0)).new1 (i := 13) n11 (.int .u64 0))
  simp at hR2
  refine bp_abs (fun wx hwx => ?_)
  rw [← hwx] at hR2 hr2 hU2
  clear hwx
  have z0 := hR2.cell 0
  have z1 := hR2.cell 1
  have z2 := hR2.cell 2
  have z3 := hR2.cell 3
  have z4 := hR2.cell 4
  have z5 := hR2.cell 5
  have z6 := hR2.cell 6
  have z7 := hR2.cell 7
  have z8 := hR2.cell 8
  have z9 := hR2.cell 9
  have z10 := hR2.cell 10
  have z11 := hR2.cell 11
  have z12 := hR2.cell 12
  have z13 := hR2.cell 13
  simp at z0 z1 z2 z3 z4 z5 z6 z7 z8 z9 z10 z11 z12 z13
  have hq := HQ.out
  subst hq
  clear HQ
  refine bodyPost_ret (v := .agg (ntA ⟨k, 0, 0, trZero, na, am, [], 0, 0⟩ none 0)) (by simp [results, Tryd.results9, go_sem, z0, z1, z2, z3, z4, z5, z6, z7, z8, z9, z10, z11, z12, z13, trZero]) rfl ?_
  exact ⟨_, rfl, ⟨_, _, rfl, Rd.nil_⟩, hr2, hU2⟩

set_option maxRecDepth 100000 in
set_option maxHeartbeats 4000000 in
theorem note_day (g : Nat) (s : RS) (w : World) (I : Nat → Prop) (hI : ∀ k, I k → k < w.heap.size) (h : RdrAt w I g s) (hk : isKind (rKind s).1 = true) (hf : formOf (rKind s).1 = ⟨false, true, false, false, false, false, false⟩) :
    Calls Tryd.prog 9 #[.agg #[.pointer (some ⟨g, 0, none⟩)]] w (RPost I g w (rNote s).2 (VNote w.heap.size (rNote s).1)) := by
  have hg := h.lt
  have hkl := rKind_lt s
  obtain ⟨q, hq⟩ : ∃ q, rNote s = q := ⟨_, rfl⟩
  rw [hq]
  have hforms := forms_any (rKind s).1
  rw [hk, hf] at hforms
  have hct : ∀ w, RdrAt w I g s → Calls Tryd.prog 15 #[.pointer (some ⟨g, 0, none⟩)] w (RPost I g w (rKind s).2 (fun v _ => v = .int .u8 ((rKind s).1 : Int))) := fun w h => byte_any g s w I h
  rw [show rNote s = rNote s from rfl] at hq
  unfold rNote at hq
  simp only [hk, hf, opt, if_true, Bool.false_eq_true, if_false] at hq
  generalize rKind s = ks at *
  obtain ⟨k, s1⟩ := ks
  have HQ := Lib.hid hq
  have HFo := Lib.hid hforms
  have HCT := Lib.hid hct
  clear hq hforms hct hk hf
  have hb0 := (Blk.new w 40 #[.pointer (some ⟨g, 0, none⟩)]).alloc (.cells #[.int .i64 0, .int .i64 0, .int .i64 0, .int .i64 0, .string ⟨#[]⟩, .string ⟨#[]⟩, .string ⟨#[]⟩, .int .i64 0, .int .i64 0, .string ⟨#[]⟩, .int .i64 0, .slice none 0 0, .int .i64 0, .int .u64 0] 30)
  have hR := Blk.new (w.alloc (.cells #[.pointer (some ⟨g, 0, none⟩)] 40)) 30 #[.int .i64 0, .int .i64 0, .int .i64 0, .int .i64 0, .string ⟨#[]⟩, .string ⟨#[]⟩, .string ⟨#[]⟩, .int .i64 0, .int .i64 0, .string ⟨#[]⟩, .int .i64 0, .slice none 0 0, .int .i64 0, .int .u64 0]
  rw [World.size_alloc] at hR
  have hr := h.upd (((Upd.refl none_ w).alloc (.cells #[.pointer (some ⟨g, 0, none⟩)] 40)).alloc (.cells #[.int .i64 0, .int .i64 0, .int .i64 0, .int .i64 0, .string ⟨#[]⟩, .string ⟨#[]⟩, .string ⟨#[]⟩, .int .i64 0, .int .i64 0, .string ⟨#[]⟩, .int .i64 0, .slice none 0 0, .int .i64 0, .int .u64 0] 30)) (fun h => h) (fun _ h => h.elim)
  have hU : Upd (· = g) w ((w.alloc (.cells #[.pointer (some ⟨g, 0, none⟩)] 40)).alloc (.cells #[.int .i64 0, .int .i64 0, .int .i64 0, .int .i64 0, .string ⟨#[]⟩, .string ⟨#[]⟩, .string ⟨#[]⟩, .int .i64 0, .int .i64 0, .string ⟨#[]⟩, .int .i64 0, .slice none 0 0, .int .i64 0, .int .u64 0] 30)) := ((Upd.refl _ w).alloc _).alloc _
  go_enter Tryd.func9, Tryd.ntmps9
  go_wp2_with fail
  refine (HCT.out _ hr).mono ?_
  rintro e w1 ⟨v, rfl, rfl, hr1, hu1⟩
  replace hb0 := hb0.upd hu1 (by omega)
  replace hR := hR.upd hu1 (by omega)
  replace hU := hU.trans hu1
  clear hr hu1 HCT
  have hk64 : -9223372036854775808 ≤ (k : Int) ∧ (k : Int) ≤ 9223372036854775807 := by omega
  go_wp2_with fail
  refine (HFo.out _).mono ?_
  rintro e w2 ⟨rfl, hu2⟩
  clear hk64 HFo
  have n1 := hR.lt
  have hX2 := (Blk.new w1 30 #[.int .i64 (k : Int), .int .i64 0, .int .i64 0, .int .i64 0, .string ⟨#[]⟩, .string ⟨#[]⟩, .string ⟨#[]⟩, .int .i64 0, .int .i64 0, .string ⟨#[]⟩, .int .i64 0, .slice none 0 0, .int .i64 0, .int .u64 0]).upd hu2 (fun h => h)
  have n2 := hX2.lt
  have hX := hX2.alloc (.cells (fmA ⟨false, true, false, false, false, false, false⟩) 56)
  replace hb0 := ((hb0.alloc _).upd hu2 (fun h => h)).alloc (.cells (fmA ⟨false, true, false, false, false, false, false⟩) 56)
  replace hR := ((hR.alloc _).upd hu2 (fun h => h)).alloc (.cells (fmA ⟨false, true, false, false, false, false, false⟩) 56)
  have hF := Blk.new w2 56 (fmA ⟨false, true, false, false, false, false, false⟩)
  replace hr1 := (hr1.upd (((Upd.refl none_ w1).alloc _).trans hu2) (fun h => h) (fun _ h => h.elim)).upd ((Upd.refl none_ w2).alloc (.cells (fmA ⟨false, true, false, false, false, false, false⟩) 56)) (fun h => h) (fun _ h => h.elim)
  replace hU := ((hU.alloc _).trans (hu2.mono (fun _ h => h.elim))).alloc (.cells (fmA ⟨false, true, false, false, false, false, false⟩) 56)
  clear hX2 hu2 h hkl
  go_upto_region 3 with fail
  refine wp_abs (fun w3 hw3 => ?_)
  rw [← hw3] at hb0 hR hX hF hr1 hU
  clear hw3
  generalize hXn : w1.heap.size = X at *
  generalize hYn : w2.heap.size = Y at *
  clear hXn hYn
  have n3 : w.heap.size ≠ X := by omega
  have n4 : w.heap.size ≠ Y := by omega
  have n5 : w.heap.size + 1 ≠ X := by omega
  have n6 : w.heap.size + 1 ≠ Y := by omega
  have n7 : X ≠ Y := by omega
  have n8 : g ≠ X := by omega
  have n9 : g ≠ w.heap.size + 1 := by omega
  have n12 : g ≠ Y := by omega
  have n10 : w.heap.size ≤ X := by omega
  have n11 : w.heap.size ≤ w.heap.size + 1 := by omega
  have i1 : ¬ I X := fun h => by have := hI _ h; omega
  have i2 : ¬ I (w.heap.size + 1) := fun h => by have := hI _ h; omega
  have i3 : ∀ k, k = g → ¬ I k → ¬ I k := fun _ _ h => h
  clear n1 n2
  have y0 := hb0.cell 0
  have f0 := hF.cell 0
  have f1 := hF.cell 1
  have f2 := hF.cell 2
  have f3 := hF.cell 3
  have f4 := hF.cell 4
  have f5 := hF.cell 5
  have f6 := hF.cell 6
  simp at y0 f0 f1 f2 f3 f4 f5 f6
  obtain ⟨p, hp⟩ : ∃ p, rCount 9223372036854775807 s1 = p := ⟨_, rfl⟩
  have HQ2 := HQ.out
  rw [hp] at HQ2
  have hsz := hU.size
  have hI2 : ∀ W : World, w.heap.size ≤ W.heap.size → ∀ k, I k → k < W.heap.size := fun W h k hk => Nat.lt_of_lt_of_le (hI k hk) h
  replace hI2 := hI2 _ hsz
  have hct := fun (W : World) (hI2 : ∀ k, I k → k < W.heap.size) (hr1 : RdrAt W I g s1) => count_any g s1 9223372036854775807 W I hr1
  rw [hp] at hct
  have HCT := Lib.hid hct
  clear hct
  clear HQ
  have HQ := Lib.hid HQ2
  clear HQ2
  obtain ⟨da, s_da⟩ := p
  go_wp2_with fail
  refine (HCT.out _ hI2 hr1).mono ?_
  rintro e wn ⟨v, rfl, rfl, hr2, hu⟩
  clear HCT hp hI2 hr1
  clear y0 f0 f1 f2 f3 f4 f5 f6
  replace hb0 := hb0.upd hu (by omega)
  replace hR := hR.upd hu (by omega)
  replace hX := hX.upd hu (by omega)
  replace hF := hF.upd hu (by omega)
  replace hU := hU.trans hu
  clear hu
  have x2 := hX.cell 2
  have fx2 := hX.frozen 2
  simp at x2
  go_upto_region 9 with fail
  replace hX := (hX.set_ 2 (.int .i64 da))
  replace hb0 := (hb0.far (p := ⟨X, 2, none⟩) n3 (.int .i64 da))
  replace hR := (hR.far (p := ⟨X, 2, none⟩) n5 (.int .i64 da))
  replace hF := (hF.far (p := ⟨X, 2, none⟩) (Ne.symm n7) (.int .i64 da))
  have hr1 := (hr2.far (i := 2) n8 i1 (.int .i64 da))
  replace hU := (hU.new1 (i := 2) n10 (.int .i64 da))
  clear hr2 x2 fx2
  simp at hX
  refine wp_abs (fun wx hwx => ?_)
  rw [← hwx] at hb0 hR hX hF hr1 hU
  clear hwx
  have y0 := hb0.cell 0
  have f0 := hF.cell 0
  have f1 := hF.cell 1
  have f2 := hF.cell 2
  have f3 := hF.cell 3
  have f4 := hF.cell 4
  have f5 := hF.cell 5
  have f6 := hF.cell 6
  simp at y0 f0 f1 f2 f3 f4 f5 f6
  go_upto_region 19 with fail
  clear y0 f0 f1 f2 f3 f4 f5 f6
  have x0 := hX.cell 0
  have x1 := hX.cell 1
  have x2 := hX.cell 2
  have x3 := hX.cell 3
  have x4 := hX.cell 4
  have x5 := hX.cell 5
  have x6 := hX.cell 6
  have x7 := hX.cell 7
  have x8 := hX.cell 8
  have x9 := hX.cell 9
  have x10 := hX.cell 10
  have x11 := hX.cell 11
  have x12 := hX.cell 12
  have x13 := hX.cell 13
  have z0 := hR.cell 0
  have z1 := hR.cell 1
  have z2 := hR.cell 2
  have z3 := hR.cell 3
  have z4 := hR.cell 4
  have z5 := hR.cell 5
  have z6 := hR.cell 6
  have z7 := hR.cell 7
  have z8 := hR.cell 8
  have z9 := hR.cell 9
  have z10 := hR.cell 10
  have z11 := hR.cell 11
  have z12 := hR.cell 12
  have z13 := hR.cell 13
  have fz0 := hR.frozen 0
  have fz1 := hR.frozen 1
  have fz2 := hR.frozen 2
  have fz3 := hR.frozen 3
  have fz4 := hR.frozen 4
  have fz5 := hR.frozen 5
  have fz6 := hR.frozen 6
  have fz7 := hR.frozen 7
  have fz8 := hR.frozen 8
  have fz9 := hR.frozen 9
  have fz10 := hR.frozen 10
  have fz11 := hR.frozen 11
  have fz12 := hR.frozen 12
  have fz13 := hR.frozen 13
  simp at x0 z0 x1 z1 x2 z2 x3 z3 x4 z4 x5 z5 x6 z6 x7 z7 x8 z8 x9 z9 x10 z10 x11 z11 x12 z12 x13 z13
  go_wp2
  clear x0 z0 fz0 x1 z1 fz1 x2 z2 fz2 x3 z3 fz3 x4 z4 fz4 x5 z5 fz5 x6 z6 fz6 x7 z7 fz7 x8 z8 fz8 x9 z9 fz9 x10 z10 fz10 x11 z11 fz11 x12 z12 fz12 x13 z13 fz13
  have hR2 := ((((((((((((((hR.set_ 0 (.int .i64 (k : Int))).set_ 1 (.int .i64 0)).set_ 2 (.int .i64 da)).set_ 3 (.int .i64 0)).set_ 4 (.string ⟨#[]⟩)).set_ 5 (.string ⟨#[]⟩)).set_ 6 (.string ⟨#[]⟩)).set_ 7 (.int .i64 0)).set_ 8 (.int .i64 0)).set_ 9 (.string ⟨#[]⟩)).set_ 10 (.int .i64 0)).set_ 11 (.slice none 0 0)).set_ 12 (.int .i64 0)).set_ 13 (.int .u64 0))
  have hr2 := ((((((((((((((hr1.far (i := 0) n9 i2 (.int .i64 (k : Int))).far (i := 1) n9 i2 (.int .i64 0)).far (i := 2) n9 i2 (.int .i64 da)).far (i := 3) n9 i2 (.int .i64 0)).far (i := 4) n9 i2 (.string ⟨#[]⟩)).far (i := 5) n9 i2 (.string ⟨#[]⟩)).far (i := 6) n9 i2 (.string ⟨#[]⟩)).far (i := 7) n9 i2 (.int .i64 0)).far (i := 8) n9 i2 (.int .i64 0)).far (i := 9) n9 i2 (.string ⟨#[]⟩)).far (i := 10) n9 i2 (.int .i64 0)).far (i := 11) n9 i2 (.slice none 0 0)).far (i := 12) n9 i2 (.int .i64 0)).far (i := 13) n9 i2 (.int .u64 0))
  have hU2 := ((((((((((((((hU.new1 (i := 0) n11 (.int .i64 (k : Int))).new1 (i := 1) n11 (.int .i64 0)).new1 (i := 2) n11 (.int .i64 da)).new1 (i := 3) n11 (.int .i64 0)).new1 (i := 4) n11 (.string ⟨#[]⟩)).new1 (i := 5) n11 (.string ⟨#[]⟩)).new1 (i := 6) n11 (.string ⟨#[]⟩)).new1 (i := 7) n11 (.int .i64 0)).new1 (i := 8) n11 (.int .i64 0)).new1 (i := 9) n11 (.string ⟨#[]⟩)).new1 (i := 10) n11 (.int .i64 0)).new1 (i := 11) n11 (.slice none 0 0)).new1 (i := 12) n11 (.int .i64 0)).new1 (i := 13) n11 (.int .u64 0))
  simp at hR2
  refine bp_abs (fun wx hwx => ?_)
  rw [← hwx] at hR2 hr2 hU2
  clear hwx
  have z0 := hR2.cell 0
  have z1 := hR2.cell 1
  have z2 := hR2.cell 2
  have z3 := hR2.cell 3
  have z4 := hR2.cell 4
  have z5 := hR2.cell 5
  have z6 := hR2.cell 6
  have z7 := hR2.cell 7
  have z8 := hR2.cell 8
  have z9 := hR2.cell 9
  have z10 := hR2.cell 10
  have z11 := hR2.cell 11
  have z12 := hR2.cell 12
  have z13 := hR2.cell 13
  simp at z0 z1 z2 z3 z4 z5 z6 z7 z8 z9 z10 z11 z12 z13
  have hq := HQ.out
  subst hq
  clear HQ
  refine bodyPost_ret (v := .agg (ntA ⟨k, 0, da, trZero, [], 0, [], 0, 0⟩ none 0)) (by simp [results, Tryd.results9, go_sem, z0, z1, z2, z3, z4, z5, z6, z7, z8, z9, z10, z11, z12, z13, trZero]) rfl ?_
  exact ⟨_, rfl, ⟨_, _, rfl, Rd.nil_⟩, hr2, hU2⟩

set_option maxRecDepth 100000 in
set_option maxHeartbeats 4000000 in
theorem note_name (g : Nat) (s : RS) (w : World) (I : Nat → Prop) (hI : ∀ k, I k → k < w.heap.size) (h : RdrAt w I g s) (hk : isKind (rKind s).1 = true) (hf : formOf (rKind s).1 = ⟨false, false, false, true, false, false, false⟩) :
    Calls Tryd.prog 9 #[.agg #[.pointer (some ⟨g, 0, none⟩)]] w (RPost I g w (rNote s).2 (VNote w.heap.size (rNote s).1)) := by
  have hg := h.lt
  have hkl := rKind_lt s
  obtain ⟨q, hq⟩ : ∃ q, rNote s = q := ⟨_, rfl⟩
  rw [hq]
  have hforms := forms_any (rKind s).1
  rw [hk, hf] at hforms
  have hct : ∀ w, RdrAt w I g s → Calls Tryd.prog 15 #[.pointer (some ⟨g, 0, none⟩)] w (RPost I g w (rKind s).2 (fun v _ => v = .int .u8 ((rKind s).1 : Int))) := fun w h => byte_any g s w I h
  rw [show rNote s = rNote s from rfl] at hq
  unfold rNote at hq
  simp only [hk, hf, opt, if_true, Bool.false_eq_true, if_false] at hq
  generalize rKind s = ks at *
  obtain ⟨k, s1⟩ := ks
  have HQ := Lib.hid hq
  have HFo := Lib.hid hforms
  have HCT := Lib.hid hct
  clear hq hforms hct hk hf
  have hb0 := (Blk.new w 40 #[.pointer (some ⟨g, 0, none⟩)]).alloc (.cells #[.int .i64 0, .int .i64 0, .int .i64 0, .int .i64 0, .string ⟨#[]⟩, .string ⟨#[]⟩, .string ⟨#[]⟩, .int .i64 0, .int .i64 0, .string ⟨#[]⟩, .int .i64 0, .slice none 0 0, .int .i64 0, .int .u64 0] 30)
  have hR := Blk.new (w.alloc (.cells #[.pointer (some ⟨g, 0, none⟩)] 40)) 30 #[.int .i64 0, .int .i64 0, .int .i64 0, .int .i64 0, .string ⟨#[]⟩, .string ⟨#[]⟩, .string ⟨#[]⟩, .int .i64 0, .int .i64 0, .string ⟨#[]⟩, .int .i64 0, .slice none 0 0, .int .i64 0, .int .u64 0]
  rw [World.size_alloc] at hR
  have hr := h.upd (((Upd.refl none_ w).alloc (.cells #[.pointer (some ⟨g, 0, none⟩)] 40)).alloc (.cells #[.int .i64 0, .int .i64 0, .int .i64 0, .int .i64 0, .string ⟨#[]⟩, .string ⟨#[]⟩, .string ⟨#[]⟩, .int .i64 0, .int .i64 0, .string ⟨#[]⟩, .int .i64 0, .slice none 0 0, .int .i64 0, .int .u64 0] 30)) (fun h => h) (fun _ h => h.elim)
  have hU : Upd (· = g) w ((w.alloc (.cells #[.pointer (some ⟨g, 0, none⟩)] 40)).alloc (.cells #[.int .i64 0, .int .i64 0, .int .i64 0, .int .i64 0, .string ⟨#[]⟩, .string ⟨#[]⟩, .string ⟨#[]⟩, .int .i64 0, .int .i64 0, .string ⟨#[]⟩, .int .i64 0, .slice none 0 0, .int .i64 0, .int .u64 0] 30)) := ((Upd.refl _ w).alloc _).alloc _
  go_enter Tryd.func9, Tryd.ntmps9
  go_wp2_with fail
  refine (HCT.out _ hr).mono ?_
  rintro e w1 ⟨v, rfl, rfl, hr1, hu1⟩
  replace hb0 := hb0.upd hu1 (by omega)
  replace hR := hR.upd hu1 (by omega)
  replace hU := hU.trans hu1
  clear hr hu1 HCT
  have hk64 : -9223372036854775808 ≤ (k : Int) ∧ (k : Int) ≤ 9223372036854775807 := by omega
  go_wp2_with fail
  refine (HFo.out _).mono ?_
  rintro e w2 ⟨rfl, hu2⟩
  clear hk64 HFo
  have n1 := hR.lt
  have hX2 := (Blk.new w1 30 #[.int .i64 (k : Int), .int .i64 0, .int .i64 0, .int .i64 0, .string ⟨#[]⟩, .string ⟨#[]⟩, .string ⟨#[]⟩, .int .i64 0, .int .i64 0, .string ⟨#[]⟩, .int .i64 0, .slice none 0 0, .int .i64 0, .int .u64 0]).upd hu2 (fun h => h)
  have n2 := hX2.lt
  have hX := hX2.alloc (.cells (fmA ⟨false, false, false, true, false, false, false⟩) 56)
  replace hb0 := ((hb0.alloc _).upd hu2 (fun h => h)).alloc (.cells (fmA ⟨false, false, false, true, false, false, false⟩) 56)
  replace hR := ((hR.alloc _).upd hu2 (fun h => h)).alloc (.cells (fmA ⟨false, false, false, true, false, false, false⟩) 56)
  have hF := Blk.new w2 56 (fmA ⟨false, false, false, true, false, false, false⟩)
  replace hr1 := (hr1.upd (((Upd.refl none_ w1).alloc _).trans hu2) (fun h => h) (fun _ h => h.elim)).upd ((Upd.refl none_ w2).alloc (.cells (fmA ⟨false, false, false, true, false, false, false⟩) 56)) (fun h => h) (fun _ h => h.elim)
  replace hU := ((hU.alloc _).trans (hu2.mono (fun _ h => h.elim))).alloc (.cells (fmA ⟨false, false, false, true, false, false, false⟩) 56)
  clear hX2 hu2 h hkl
  go_upto_region 3 with fail
  refine wp_abs (fun w3 hw3 => ?_)
  rw [← hw3] at hb0 hR hX hF hr1 hU
  clear hw3
  generalize hXn : w1.heap.size = X at *
  generalize hYn : w2.heap.size = Y at *
  clear hXn hYn
  have n3 : w.heap.size ≠ X := by omega
  have n4 : w.heap.size ≠ Y := by omega
  have n5 : w.heap.size + 1 ≠ X := by omega
  have n6 : w.heap.size + 1 ≠ Y := by omega
  have n7 : X ≠ Y := by omega
  have n8 : g ≠ X := by omega
  have n9 : g ≠ w.heap.size + 1 := by omega
  have n12 : g ≠ Y := by omega
  have n10 : w.heap.size ≤ X := by omega
  have n11 : w.heap.size ≤ w.heap.size + 1 := by omega
  have i1 : ¬ I X := fun h => by have := hI _ h; omega
  have i2 : ¬ I (w.heap.size + 1) := fun h => by have := hI _ h; omega
  have i3 : ∀ k, k = g → ¬ I k → ¬ I k := fun _ _ h => h
  clear n1 n2
  have y0 := hb0.cell 0
  have f0 := hF.cell 0
  have f1 := hF.cell 1
  have f2 := hF.cell 2
  have f3 := hF.cell 3
  have f4 := hF.cell 4
  have f5 := hF.cell 5
  have f6 := hF.cell 6
  simp at y0 f0 f1 f2 f3 f4 f5 f6
  obtain ⟨p, hp⟩ : ∃ p, rText 12 s1 = p := ⟨_, rfl⟩
  have HQ2 := HQ.out
  rw [hp] at HQ2
  have hsz := hU.size
  have hI2 : ∀ W : World, w.heap.size ≤ W.heap.size → ∀ k, I k → k < W.heap.size := fun W h k hk => Nat.lt_of_lt_of_le (hI k hk) h
  replace hI2 := hI2 _ hsz
  have hct := fun (W : World) (hI2 : ∀ k, I k → k < W.heap.size) (hr1 : RdrAt W I g s1) => text_any g s1 12 W I hr1
  rw [hp] at hct
  have HCT := Lib.hid hct
  clear hct
  clear HQ
  have HQ := Lib.hid HQ2
  clear HQ2
  obtain ⟨na, s_na⟩ := p
  go_wp2_with fail
  refine (HCT.out _ hI2 hr1).mono ?_
  rintro e wn ⟨v, rfl, rfl, hr2, hu⟩
  clear HCT hp hI2 hr1
  clear y0 f0 f1 f2 f3 f4 f5 f6
  replace hb0 := hb0.upd hu (by omega)
  replace hR := hR.upd hu (by omega)
  replace hX := hX.upd hu (by omega)
  replace hF := hF.upd hu (by omega)
  replace hU := hU.trans hu
  clear hu
  have x9 := hX.cell 9
  have fx9 := hX.frozen 9
  simp at x9
  go_upto_region 13 with fail
  replace hX := (hX.set_ 9 (str na))
  replace hb0 := (hb0.far (p := ⟨X, 9, none⟩) n3 (str na))
  replace hR := (hR.far (p := ⟨X, 9, none⟩) n5 (str na))
  replace hF := (hF.far (p := ⟨X, 9, none⟩) (Ne.symm n7) (str na))
  have hr1 := (hr2.far (i := 9) n8 i1 (str na))
  replace hU := (hU.new1 (i := 9) n10 (str na))
  clear hr2 x9 fx9
  simp at hX
  refine wp_abs (fun wx hwx => ?_)
  rw [← hwx] at hb0 hR hX hF hr1 hU
  clear hwx
  have y0 := hb0.cell 0
  have f0 := hF.cell 0
  have f1 := hF.cell 1
  have f2 := hF.cell 2
  have f3 := hF.cell 3
  have f4 := hF.cell 4
  have f5 := hF.cell 5
  have f6 := hF.cell 6
  simp at y0 f0 f1 f2 f3 f4 f5 f6
  go_upto_region 19 with fail
  clear y0 f0 f1 f2 f3 f4 f5 f6
  have x0 := hX.cell 0
  have x1 := hX.cell 1
  have x2 := hX.cell 2
  have x3 := hX.cell 3
  have x4 := hX.cell 4
  have x5 := hX.cell 5
  have x6 := hX.cell 6
  have x7 := hX.cell 7
  have x8 := hX.cell 8
  have x9 := hX.cell 9
  have x10 := hX.cell 10
  have x11 := hX.cell 11
  have x12 := hX.cell 12
  have x13 := hX.cell 13
  have z0 := hR.cell 0
  have z1 := hR.cell 1
  have z2 := hR.cell 2
  have z3 := hR.cell 3
  have z4 := hR.cell 4
  have z5 := hR.cell 5
  have z6 := hR.cell 6
  have z7 := hR.cell 7
  have z8 := hR.cell 8
  have z9 := hR.cell 9
  have z10 := hR.cell 10
  have z11 := hR.cell 11
  have z12 := hR.cell 12
  have z13 := hR.cell 13
  have fz0 := hR.frozen 0
  have fz1 := hR.frozen 1
  have fz2 := hR.frozen 2
  have fz3 := hR.frozen 3
  have fz4 := hR.frozen 4
  have fz5 := hR.frozen 5
  have fz6 := hR.frozen 6
  have fz7 := hR.frozen 7
  have fz8 := hR.frozen 8
  have fz9 := hR.frozen 9
  have fz10 := hR.frozen 10
  have fz11 := hR.frozen 11
  have fz12 := hR.frozen 12
  have fz13 := hR.frozen 13
  simp at x0 z0 x1 z1 x2 z2 x3 z3 x4 z4 x5 z5 x6 z6 x7 z7 x8 z8 x9 z9 x10 z10 x11 z11 x12 z12 x13 z13
  go_wp2
  clear x0 z0 fz0 x1 z1 fz1 x2 z2 fz2 x3 z3 fz3 x4 z4 fz4 x5 z5 fz5 x6 z6 fz6 x7 z7 fz7 x8 z8 fz8 x9 z9 fz9 x10 z10 fz10 x11 z11 fz11 x12 z12 fz12 x13 z13 fz13
  have hR2 := ((((((((((((((hR.set_ 0 (.int .i64 (k : Int))).set_ 1 (.int .i64 0)).set_ 2 (.int .i64 0)).set_ 3 (.int .i64 0)).set_ 4 (.string ⟨#[]⟩)).set_ 5 (.string ⟨#[]⟩)).set_ 6 (.string ⟨#[]⟩)).set_ 7 (.int .i64 0)).set_ 8 (.int .i64 0)).set_ 9 (str na)).set_ 10 (.int .i64 0)).set_ 11 (.slice none 0 0)).set_ 12 (.int .i64 0)).set_ 13 (.int .u64 0))
  have hr2 := ((((((((((((((hr1.far (i := 0) n9 i2 (.int .i64 (k : Int))).far (i := 1) n9 i2 (.int .i64 0)).far (i := 2) n9 i2 (.int .i64 0)).far (i := 3) n9 i2 (.int .i64 0)).far (i := 4) n9 i2 (.string ⟨#[]⟩)).far (i := 5) n9 i2 (.string ⟨#[]⟩)).far (i := 6) n9 i2 (.string ⟨#[]⟩)).far (i := 7) n9 i2 (.int .i64 0)).far (i := 8) n9 i2 (.int .i64 0)).far (i := 9) n9 i2 (str na)).far (i := 10) n9 i2 (.int .i64 0)).far (i := 11) n9 i2 (.slice none 0 0)).far (i := 12) n9 i2 (.int .i64 0)).far (i := 13) n9 i2 (.int .u64 0))
  have hU2 := ((((((((((((((hU.new1 (i := 0) n11 (.int .i64 (k : Int))).new1 (i := 1) n11 (.int .i64 0)).new1 (i := 2) n11 (.int .i64 0)).new1 (i := 3) n11 (.int .i64 0)).new1 (i := 4) n11 (.string ⟨#[]⟩)).new1 (i := 5) n11 (.string ⟨#[]⟩)).new1 (i := 6) n11 (.string ⟨#[]⟩)).new1 (i := 7) n11 (.int .i64 0)).new1 (i := 8) n11 (.int .i64 0)).new1 (i := 9) n11 (str na)).new1 (i := 10) n11 (.int .i64 0)).new1 (i := 11) n11 (.slice none 0 0)).new1 (i := 12) n11 (.int .i64 0)).new1 (i := 13) n11 (.int .u64 0))
  simp at hR2
  refine bp_abs (fun wx hwx => ?_)
  rw [← hwx] at hR2 hr2 hU2
  clear hwx
  have z0 := hR2.cell 0
  have z1 := hR2.cell 1
  have z2 := hR2.cell 2
  have z3 := hR2.cell 3
  have z4 := hR2.cell 4
  have z5 := hR2.cell 5
  have z6 := hR2.cell 6
  have z7 := hR2.cell 7
  have z8 := hR2.cell 8
  have z9 := hR2.cell 9
  have z10 := hR2.cell 10
  have z11 := hR2.cell 11
  have z12 := hR2.cell 12
  have z13 := hR2.cell 13
  simp at z0 z1 z2 z3 z4 z5 z6 z7 z8 z9 z10 z11 z12 z13
  have hq := HQ.out
  subst hq
  clear HQ
  refine bodyPost_ret (v := .agg (ntA ⟨k, 0, 0, trZero, na, 0, [], 0, 0⟩ none 0)) (by simp [results, Tryd.results9, go_sem, z0, z1, z2, z3, z4, z5, z6, z7, z8, z9, z10, z11, z12, z13, trZero]) rfl ?_
  exact ⟨_, rfl, ⟨_, _, rfl, Rd.nil_⟩, hr2, hU2⟩

end Go.Proofs.YtpffaenjphnfiaaDoor
