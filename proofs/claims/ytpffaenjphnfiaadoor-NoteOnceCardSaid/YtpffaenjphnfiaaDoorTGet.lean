/- A trade out of bytes. -/
import Derived.Test.YtpffaenjphnfiaaDoorRdrC
import Derived.Test.YtpffaenjphnfiaaDoorTrade
namespace Go.Proofs.YtpffaenjphnfiaaDoor
open Go.RowKit

abbrev trA (t : Trd) : Array Value := #[.int .i64 t.id, str t.buyer, str t.seller, str t.isin, .int .i64 t.qty, .int .i64 t.price]
def trZero : Trd := ⟨0, [], [], [], 0, 0⟩
def rTrade0 (s : RS) : Trd × RS :=
  let p1 := rNumber s; let p2 := rText 12 p1.2; let p3 := rText 12 p2.2; let p4 := rText 12 p3.2; let p5 := rNumber p4.2; let p6 := rNumber p5.2
  (⟨p1.1, p2.1, p3.1, p4.1, p5.1, p6.1⟩, p6.2)
def rTrade1 (p : Trd × RS) : RS := if p.2.1 = 0 then rFail (tradeErr p.1) p.2 else p.2
def rTrade (s : RS) : Trd × RS := (if (rTrade1 (rTrade0 s)).1 = 0 then (rTrade0 s).1 else trZero, rTrade1 (rTrade0 s))

set_option maxRecDepth 100000 in
set_option maxHeartbeats 2000000 in
theorem get_any (g : Nat) (s : RS) (w : World) (I : Nat → Prop) (hI : ∀ k, I k → k < w.heap.size) (h : RdrAt w I g s) :
    Calls Tryd.prog 19 #[.pointer (some ⟨g, 0, none⟩)] w (RPost I g w (rTrade s).2 (fun v _ => v = .agg (trA (rTrade s).1))) := by
  have hlt := h.lt
  have hC : rTrade s = (if (rTrade1 (rTrade0 s)).1 = 0 then (rTrade0 s).1 else trZero, rTrade1 (rTrade0 s)) := rfl
  have hD : rTrade0 s = (⟨(rNumber s).1, (rText 12 (rNumber s).2).1, (rText 12 (rText 12 (rNumber s).2).2).1, (rText 12 (rText 12 (rText 12 (rNumber s).2).2).2).1,
    (rNumber (rText 12 (rText 12 (rText 12 (rNumber s).2).2).2).2).1, (rNumber (rNumber (rText 12 (rText 12 (rText 12 (rNumber s).2).2).2).2).2).1⟩, (rNumber (rNumber (rText 12 (rText 12 (rText 12 (rNumber s).2).2).2).2).2).2) := rfl
  generalize rTrade s = q at *
  generalize hq0 : rTrade0 s = q0 at *
  generalize hp1 : rNumber s = p1 at *
  obtain ⟨id, s1⟩ := p1
  generalize hp2 : rText 12 s1 = p2 at *
  obtain ⟨b, s2⟩ := p2
  generalize hp3 : rText 12 s2 = p3 at *
  obtain ⟨se, s3⟩ := p3
  generalize hp4 : rText 12 s3 = p4 at *
  obtain ⟨i, s4⟩ := p4
  generalize hp5 : rNumber s4 = p5 at *
  obtain ⟨qt, s5⟩ := p5
  generalize hp6 : rNumber s5 = p6 at *
  obtain ⟨pr, s6⟩ := p6
  have HC := Lib.hid hC; have HD := Lib.hid hD; have HP1 := Lib.hid hp1; have HP2 := Lib.hid hp2; have HP3 := Lib.hid hp3; have HP4 := Lib.hid hp4; have HP5 := Lib.hid hp5; have HP6 := Lib.hid hp6
  clear hC hD hp1 hp2 hp3 hp4 hp5 hp6 hq0
  go_enter Tryd.func19, Tryd.ntmps19
  go_wp2_with fail
  have hR := Blk.new w 24 (trA trZero)
  have hr := h.upd ((Upd.refl none_ w).alloc (.cells (trA trZero) 24)) (fun h => h) (fun _ h => h.elim)
  have hU : Upd (· = g) w (w.alloc (.cells (trA trZero) 24)) := (Upd.refl _ w).alloc _
  refine (number_any g s _ I hr).mono ?_
  rw [HP1.out]
  rintro e w1 ⟨v, rfl, rfl, hr1, hu1⟩
  replace hR := hR.upd hu1 (by omega)
  replace hU := hU.trans hu1
  have hsz := hU.size
  have hgX : g ≠ w1.heap.size := by have := hr1.lt; omega
  have hRX : w.heap.size ≠ w1.heap.size := by have := hR.lt; omega
  have hIX : ¬ I w1.heap.size := fun h => by have := hI _ h; omega
  have hIR : ¬ I w.heap.size := fun h => by have := hI _ h; omega
  go_wp2_with fail
  refine (text_any g s1 12 _ I (hr1.upd ((Upd.refl none_ w1).alloc _) (fun h => h) (fun _ h => h.elim))).mono ?_
  rw [HP2.out]
  rintro e w2 ⟨v, rfl, rfl, hr2, hu2⟩
  have hX := (Blk.new w1 24 _).upd hu2 (by omega)
  replace hR := (hR.alloc _).upd hu2 (by omega)
  replace hU := (hU.alloc _).trans hu2
  generalize hXn : w1.heap.size = X at *
  have HXN := Lib.hid hXn; clear hXn
  have x1 := hX.cell 1
  have fx1 := hX.frozen 1
  simp at x1
  go_wp2_with fail
  clear x1 fx1
  refine (text_any g s2 12 _ I (hr2.far hgX hIX _)).mono ?_
  rw [HP3.out]
  rintro e w3 ⟨v, rfl, rfl, hr3, hu3⟩
  replace hX := (hX.set_ 1 (str b)).upd hu3 (by omega)
  replace hR := (hR.far (p := ⟨X, 1, none⟩) hRX _).upd hu3 (by omega)
  replace hU := (hU.new1 hsz _).trans hu3
  have x2 := hX.cell 2
  have fx2 := hX.frozen 2
  simp at x2
  go_wp2_with fail
  clear x2 fx2
  refine (text_any g s3 12 _ I (hr3.far hgX hIX _)).mono ?_
  rw [HP4.out]
  rintro e w4 ⟨v, rfl, rfl, hr4, hu4⟩
  replace hX := (hX.set_ 2 (str se)).upd hu4 (by omega)
  replace hR := (hR.far (p := ⟨X, 2, none⟩) hRX _).upd hu4 (by omega)
  replace hU := (hU.new1 hsz _).trans hu4
  have x3 := hX.cell 3
  have fx3 := hX.frozen 3
  simp at x3
  go_wp2_with fail
  clear x3 fx3
  refine (number_any g s4 _ I (hr4.far hgX hIX _)).mono ?_
  rw [HP5.out]
  rintro e w5 ⟨v, rfl, rfl, hr5, hu5⟩
  replace hX := (hX.set_ 3 (str i)).upd hu5 (by omega)
  replace hR := (hR.far (p := ⟨X, 3, none⟩) hRX _).upd hu5 (by omega)
  replace hU := (hU.new1 hsz _).trans hu5
  have x4 := hX.cell 4
  have fx4 := hX.frozen 4
  simp at x4
  go_wp2_with fail
  clear x4 fx4
  refine (number_any g s5 _ I (hr5.far hgX hIX _)).mono ?_
  rw [HP6.out]
  rintro e w6 ⟨v, rfl, rfl, hr6, hu6⟩
  replace hX := (hX.set_ 4 (.int .i64 qt)).upd hu6 (by omega)
  replace hR := (hR.far (p := ⟨X, 4, none⟩) hRX _).upd hu6 (by omega)
  replace hU := (hU.new1 hsz _).trans hu6
  have x5 := hX.cell 5
  have fx5 := hX.frozen 5
  simp at x5
  have hXf := hX.set_ 5 (.int .i64 pr)
  simp at hXf
  have hRf := hR.far (p := ⟨X, 5, none⟩) hRX (.int .i64 pr)
  have hUf := hU.new1 (i := 5) hsz (.int .i64 pr)
  have hrf := hr6.far (i := 5) hgX hIX (.int .i64 pr)
  go_wp2_with fail
  refine (ROk_any g s6 _ I hrf).mono ?_
  rintro e w7 ⟨rfl, hw7⟩
  rw [← hw7]
  rw [hw7] at hXf hRf hUf hrf
  rw [hw7]
  clear hw7
  have hgR : g ≠ w.heap.size := by omega
  by_cases h6 : s6.1 = 0
  · have h6b : (s6.1 == 0) = true := by simp [h6]
    have HC2 : Hid (q = (if (rFail (tradeErr ⟨id, b, se, i, qt, pr⟩) s6).1 = 0 then ⟨id, b, se, i, qt, pr⟩ else trZero, rFail (tradeErr ⟨id, b, se, i, qt, pr⟩) s6)) := by
      rw [Hid, HC.out, HD.out]; simp [rTrade1, h6]
    clear h6
    have x0 := hXf.cell 0
    have x1 := hXf.cell 1
    have x2 := hXf.cell 2
    have x3 := hXf.cell 3
    have x4 := hXf.cell 4
    have x5 := hXf.cell 5
    simp at x0 x1 x2 x3 x4 x5
    go_wp2_with fail
    refine (tcheck_any id b se i qt pr _).mono ?_
    rintro e w8 ⟨rfl, hu8⟩
    have hr8 := hrf.upd hu8 (fun h => h) (fun _ h => h.elim)
    go_wp2_with fail
    refine (RFail_any g s6 _ w8 I hr8).mono ?_
    rintro e w9 ⟨v, rfl, rfl, hr9, hu9⟩
    have hR9 := (hRf.upd hu8 (fun h => h)).upd hu9 (by omega)
    have hX9 := (hXf.upd hu8 (fun h => h)).upd hu9 (by omega)
    have hU9 := (hUf.then_ hu8 (fun _ h => h.elim)).trans hu9
    generalize rFail (tradeErr ⟨id, b, se, i, qt, pr⟩) s6 = s7 at *
    go_wp2_with fail
    refine (ROk_any g s7 _ I hr9).mono ?_
    rintro e w10 ⟨rfl, rfl⟩
    clear x0 x1 x2 x3 x4 x5
    by_cases h7 : s7.1 = 0
    · have h7b : (s7.1 == 0) = true := by simp [h7]
      have HF : Hid (q = (⟨id, b, se, i, qt, pr⟩, s7)) := by rw [Hid, HC2.out]; simp [h7]
      clear h7 HC2
      have x0 := hX9.cell 0
      have x1 := hX9.cell 1
      have x2 := hX9.cell 2
      have x3 := hX9.cell 3
      have x4 := hX9.cell 4
      have x5 := hX9.cell 5
      simp at x0 x1 x2 x3 x4 x5
      have r0 := hR9.cell 0
      have r1 := hR9.cell 1
      have r2 := hR9.cell 2
      have r3 := hR9.cell 3
      have r4 := hR9.cell 4
      have r5 := hR9.cell 5
      have z0 := hR9.frozen 0
      have z1 := hR9.frozen 1
      have z2 := hR9.frozen 2
      have z3 := hR9.frozen 3
      have z4 := hR9.frozen 4
      have z5 := hR9.frozen 5
      simp at r0 r1 r2 r3 r4 r5
      go_wp2
      refine bodyPost_ret (v := .agg (trA ⟨id, b, se, i, qt, pr⟩)) (by simp [results, Tryd.results19, go_sem, r0, r1, r2, r3, r4, r5, trZero]) rfl ?_
      rw [HF.out]
      exact ⟨_, rfl, rfl, ((((((hr9.far hgR hIR _).far hgR hIR _).far hgR hIR _).far hgR hIR _).far hgR hIR _).far hgR hIR _), ((((((hU9.new1 (Nat.le_refl _) _).new1 (Nat.le_refl _) _).new1 (Nat.le_refl _) _).new1 (Nat.le_refl _) _).new1 (Nat.le_refl _) _).new1 (Nat.le_refl _) _)⟩
    · have h7b : (s7.1 == 0) = false := by simp [h7]
      have HF : Hid (q = (trZero, s7)) := by rw [Hid, HC2.out]; simp [h7]
      clear h7 HC2
      have r0 := hR9.cell 0
      have r1 := hR9.cell 1
      have r2 := hR9.cell 2
      have r3 := hR9.cell 3
      have r4 := hR9.cell 4
      have r5 := hR9.cell 5
      have z0 := hR9.frozen 0
      have z1 := hR9.frozen 1
      have z2 := hR9.frozen 2
      have z3 := hR9.frozen 3
      have z4 := hR9.frozen 4
      have z5 := hR9.frozen 5
      simp at r0 r1 r2 r3 r4 r5
      go_wp2
      refine bodyPost_ret (v := .agg (trA trZero)) (by simp [results, Tryd.results19, go_sem, r0, r1, r2, r3, r4, r5, trZero]) rfl ?_
      rw [HF.out]
      exact ⟨_, rfl, rfl, ((((((hr9.far hgR hIR _).far hgR hIR _).far hgR hIR _).far hgR hIR _).far hgR hIR _).far hgR hIR _), ((((((hU9.new1 (Nat.le_refl _) _).new1 (Nat.le_refl _) _).new1 (Nat.le_refl _) _).new1 (Nat.le_refl _) _).new1 (Nat.le_refl _) _).new1 (Nat.le_refl _) _)⟩
  · have h6b : (s6.1 == 0) = false := by simp [h6]
    have HF : Hid (q = (trZero, s6)) := by
      rw [Hid, HC.out, HD.out]; simp [rTrade1, h6]
    clear h6
    go_wp2_with fail
    refine (ROk_any g s6 _ I hrf).mono ?_
    rintro e w10 ⟨rfl, rfl⟩
    have hR9 := hRf
    have hU9 := hUf
    have r0 := hR9.cell 0
    have r1 := hR9.cell 1
    have r2 := hR9.cell 2
    have r3 := hR9.cell 3
    have r4 := hR9.cell 4
    have r5 := hR9.cell 5
    have z0 := hR9.frozen 0
    have z1 := hR9.frozen 1
    have z2 := hR9.frozen 2
    have z3 := hR9.frozen 3
    have z4 := hR9.frozen 4
    have z5 := hR9.frozen 5
    simp at r0 r1 r2 r3 r4 r5
    go_wp2
    refine bodyPost_ret (v := .agg (trA trZero)) (by simp [results, Tryd.results19, go_sem, r0, r1, r2, r3, r4, r5, trZero]) rfl ?_
    rw [HF.out]
    exact ⟨_, rfl, rfl, ((((((hrf.far hgR hIR _).far hgR hIR _).far hgR hIR _).far hgR hIR _).far hgR hIR _).far hgR hIR _), ((((((hU9.new1 (Nat.le_refl _) _).new1 (Nat.le_refl _) _).new1 (Nat.le_refl _) _).new1 (Nat.le_refl _) _).new1 (Nat.le_refl _) _).new1 (Nat.le_refl _) _)⟩
end Go.Proofs.YtpffaenjphnfiaaDoor
