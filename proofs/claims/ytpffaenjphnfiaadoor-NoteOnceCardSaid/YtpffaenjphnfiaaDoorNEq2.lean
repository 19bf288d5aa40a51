/- note.Equal. -/
import Derived.Test.YtpffaenjphnfiaaDoorNEq
namespace Go.Proofs.YtpffaenjphnfiaaDoor
open Go.RowKit
attribute [local go_sem] str_size str_toList str_get arr_eq

def ntEq (x y : Nt) : Bool :=
  decide (x.kind = y.kind) && (decide (x.peer = y.peer) && (decide (x.day = y.day) && (trEq x.trade y.trade && (decide (x.name = y.name) && (decide (x.amount = y.amount) && (decide (x.rows = y.rows) && wdEq x.hi x.lo y.hi y.lo))))))
theorem ntEq_iff (x y : Nt) : ntEq x y = true ↔ x = y := by
  obtain ⟨x1, x2, x3, ⟨a1, a2, a3, a4, a5, a6⟩, x5, x6, x7, x8, x9⟩ := x
  obtain ⟨y1, y2, y3, ⟨b1, b2, b3, b4, b5, b6⟩, y5, y6, y7, y8, y9⟩ := y
  simp only [ntEq, trEq, wdEq, Bool.and_eq_true, decide_eq_true_eq, Nt.mk.injEq, Trd.mk.injEq, Int.natCast_inj]

set_option maxRecDepth 100000 in
set_option maxHeartbeats 4000000 in
theorem equal_any (x y : Nt) (A B : Option Addr) (c d : Nat) (hl : x.rows.length ≤ 1048576) (w : World) (I J : Nat → Prop) (ha : Rws w I A x.rows) (hb : Rws w J B y.rows) :
    Calls Tryd.prog 6 #[.agg (ntA x A c), .agg (ntA y B d)] w fun e w' => e = .returned (.bool (ntEq x y)) ∧ Upd none_ w w' := by
  have hU : Upd none_ w ((w.alloc (.cells (ntA x A c) 30)).alloc (.cells (ntA y B d) 30)) := ((Upd.refl none_ w).alloc _).alloc _
  have ha2 := Rd.upd ha hU (fun _ h => h.elim)
  have hb2 := Rd.upd hb hU (fun _ h => h.elim)
  have hrows := eqrows_any A B c d x.rows y.rows hl _ I J ha2 hb2
  have htr := tr_eq x.trade y.trade
  have hwd := wd_eq x.hi x.lo y.hi y.lo
  obtain ⟨b3, h3⟩ : ∃ b, trEq x.trade y.trade = b := ⟨_, rfl⟩
  obtain ⟨b6, h6⟩ : ∃ b, decide (x.rows = y.rows) = b := ⟨_, rfl⟩
  obtain ⟨b7, h7⟩ : ∃ b, wdEq x.hi x.lo y.hi y.lo = b := ⟨_, rfl⟩
  rw [h3] at htr
  rw [h6] at hrows
  rw [h7] at hwd
  have HE : Hid (ntEq x y = (decide (x.kind = y.kind) && (decide (x.peer = y.peer) && (decide (x.day = y.day) && (b3 && (decide (x.name = y.name) && (decide (x.amount = y.amount) && (b6 && b7)))))))) := by
    rw [Hid, ntEq, h3, h6, h7]
  have HR := Lib.hid hrows
  clear h3 h6 h7 hrows ha2 hb2 ha hb hl
  have fin : ∀ (v : Bool) (w2 : World), ntEq x y = v → Upd none_ w w2 → (Ending.returned (.bool v) = Ending.returned (.bool (ntEq x y)) ∧ Upd none_ w w2) := fun v w2 h1 h2 => ⟨by rw [h1], h2⟩
  have FIN := Lib.hid fin
  clear fin
  by_cases k0 : x.kind = y.kind
  rotate_left
  · have HX : Hid (ntEq x y = false) := by rw [Hid, HE.out]; simp [k0]
    go_enter Tryd.func6, Tryd.ntmps6
    go_wp2
    go_ret
    exact FIN.out _ _ HX.out hU
  by_cases k1 : x.peer = y.peer
  rotate_left
  · have HX : Hid (ntEq x y = false) := by rw [Hid, HE.out]; simp [k1]
    go_enter Tryd.func6, Tryd.ntmps6
    go_wp2
    go_ret
    exact FIN.out _ _ HX.out hU
  by_cases k2 : x.day = y.day
  rotate_left
  · have HX : Hid (ntEq x y = false) := by rw [Hid, HE.out]; simp [k2]
    go_enter Tryd.func6, Tryd.ntmps6
    go_wp2
    go_ret
    exact FIN.out _ _ HX.out hU
  cases b3
  · have HX : Hid (ntEq x y = false) := by rw [Hid, HE.out]; simp
    go_enter Tryd.func6, Tryd.ntmps6
    go_wp2
    go_ret
    exact FIN.out _ _ HX.out hU
  by_cases k4 : x.name = y.name
  rotate_left
  · have HX : Hid (ntEq x y = false) := by rw [Hid, HE.out]; simp [k4]
    go_enter Tryd.func6, Tryd.ntmps6
    go_wp2
    go_ret
    exact FIN.out _ _ HX.out hU
  by_cases k5 : x.amount = y.amount
  rotate_left
  · have HX : Hid (ntEq x y = false) := by rw [Hid, HE.out]; simp [k5]
    go_enter Tryd.func6, Tryd.ntmps6
    go_wp2
    go_ret
    exact FIN.out _ _ HX.out hU
  cases b6
  · have HX : Hid (ntEq x y = false) := by rw [Hid, HE.out]; simp
    go_enter Tryd.func6, Tryd.ntmps6
    go_wp2_with fail
    refine HR.out.mono ?_
    rintro e w2 ⟨rfl, hd⟩
    go_wp2
    go_ret
    exact FIN.out _ _ HX.out (hU.trans (hd.upd _))
  · have HX : Hid (ntEq x y = b7) := by rw [Hid, HE.out]; simp [k0, k1, k2, k4, k5]
    go_enter Tryd.func6, Tryd.ntmps6
    go_wp2_with fail
    refine HR.out.mono ?_
    rintro e w2 ⟨rfl, hd⟩
    have hN := ((Blk.new w 30 (ntA x A c)).alloc (.cells (ntA y B d) 30)).upd (hd.upd none_) (fun h => h)
    have hM := (Blk.new (w.alloc (.cells (ntA x A c) 30)) 30 (ntA y B d)).upd (hd.upd none_) (fun h => h)
    rw [World.size_alloc] at hM
    have c12 := hN.cell 12
    have c13 := hN.cell 13
    have d12 := hM.cell 12
    have d13 := hM.cell 13
    simp at c12 c13 d12 d13
    go_wp2
    go_ret
    exact FIN.out _ _ HX.out (hU.trans (hd.upd _))
end Go.Proofs.YtpffaenjphnfiaaDoor
