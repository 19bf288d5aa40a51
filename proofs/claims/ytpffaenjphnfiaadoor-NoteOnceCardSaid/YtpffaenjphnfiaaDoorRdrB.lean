/- The reader of bytes: the calls that are made of words and bytes. -/
import Derived.Test.YtpffaenjphnfiaaDoorRdr
namespace Go.Proofs.YtpffaenjphnfiaaDoor
open Go.RowKit

theorem RdrAt.open_ {w : World} {I : Nat → Prop} {g : Nat} {s : RS} (h : RdrAt w I g s) :
    ∃ A c, w.cell? ⟨g, 0, none⟩ = some (.int .i64 s.1) ∧ w.cell? ⟨g, 1, none⟩ = some (.slice A s.2.length c) ∧ w.frozen? ⟨g, 0, none⟩ = false ∧ w.frozen? ⟨g, 1, none⟩ = false ∧
      Blk w g 53 #[.int .i64 s.1, .slice A s.2.length c] ∧ Bs w I A s.2 ∧ s.2.length ≤ c ∧ s.2.length ≤ 140737488355328 ∧ ¬ I g := by
  obtain ⟨A, c, hb, hs, h1, h2, h3⟩ := h
  exact ⟨A, c, hb.cell 0, hb.cell 1, hb.frozen 0, hb.frozen 1, hb, hs, h1, h2, h3⟩

def VBool (b : Bool) (v : Value) (_ : World) : Prop := v = .bool b
def VI (n : Int) (v : Value) (_ : World) : Prop := v = .int .i64 n
def VNone (v : Value) (_ : World) : Prop := v = .tuple #[]

def rBack (was : List UInt8) (s : RS) : RS := if s.1 = 0 then s else (s.1, was)

set_option maxHeartbeats 400000 in
theorem back_any (g : Nat) (s : RS) (A : Option Addr) (c : Nat) (was : List UInt8) (w : World) (I : Nat → Prop) (h : RdrAt w I g s) (hA : Bs w I A was) (hc : was.length ≤ c) (hl : was.length ≤ 140737488355328) :
    Calls Tryd.prog 42 #[.pointer (some ⟨g, 0, none⟩), .slice A was.length c] w (RPost I g w (rBack was s) (VBool (s.1 == 0))) := by
  obtain ⟨A1, c1, x0, x1, f0, f1, hb, hs, h1, h2, h3⟩ := h.open_
  by_cases he : s.1 = 0
  · have hx : (s.1 == 0) = true := by simp [he]
    have e1 : rBack was s = s := by simp [rBack, he]
    have E1 := Lib.hid e1; clear e1 he
    go_enter Tryd.func42, Tryd.ntmps42
    go_wp2_with (go_at_call 24; refine (ok_any _ _ _ _ (by first | assumption | exact y0 _)).mono ?_; rintro e w' ⟨rfl, rfl⟩)
    go_ret
    rw [E1.out, hx]
    exact ⟨_, rfl, rfl, h, Upd.refl _ _⟩
  · have hx : (s.1 == 0) = false := by simp [he]
    have e1 : rBack was s = (s.1, was) := by simp [rBack, he]
    have E1 := Lib.hid e1; clear e1 he
    have y0 : (w.setCell ⟨g, 1, none⟩ (.slice A was.length c)).cell? ⟨g, 0, none⟩ = some (.int .i64 s.1) := (World.cell?_setCell_other w ⟨g, 1, none⟩ ⟨g, 0, none⟩ _ (by simp)).trans x0
    go_enter Tryd.func42, Tryd.ntmps42
    go_wp2_with (go_at_call 24; refine (ok_any _ _ _ _ (by first | assumption | exact y0 _)).mono ?_; rintro e w' ⟨rfl, rfl⟩)
    go_ret
    rw [E1.out, hx]
    exact ⟨_, rfl, rfl, .mk_ (hb.set_ 1 _) rfl (hA.set_ h3) hc hl h3, Upd.set1 _ _ _ _⟩

set_option maxHeartbeats 400000 in
theorem ROk_any (g : Nat) (s : RS) (w : World) (I : Nat → Prop) (h : RdrAt w I g s) :
    Calls Tryd.prog 43 #[.pointer (some ⟨g, 0, none⟩)] w fun e w' => e = .returned (.bool (s.1 == 0)) ∧ w = w' := by
  obtain ⟨A1, c1, x0, x1, f0, f1, hb, hs, h1, h2, h3⟩ := h.open_
  go_enter Tryd.func43, Tryd.ntmps43
  go_wp2_with (go_at_call 24; refine (ok_any _ _ _ _ (by first | assumption | exact y0 _)).mono ?_; rintro e w' ⟨rfl, rfl⟩)
  go_ret
  exact ⟨rfl, rfl⟩

def rFail (e : Int) (s : RS) : RS := if s.1 = 0 then (e, s.2) else s

set_option maxHeartbeats 400000 in
theorem RFail_any (g : Nat) (s : RS) (x : Int) (w : World) (I : Nat → Prop) (h : RdrAt w I g s) :
    Calls Tryd.prog 17 #[.pointer (some ⟨g, 0, none⟩), .int .i64 x] w (RPost I g w (rFail x s) VNone) := by
  obtain ⟨A1, c1, x0, x1, f0, f1, hb, hs, h1, h2, h3⟩ := h.open_
  obtain ⟨e, bs⟩ := s
  by_cases hx0 : x = 0
  · subst hx0
    have e1 : rFail 0 (e, bs) = (e, bs) := by unfold rFail; split <;> simp_all
    rw [e1]
    go_enter Tryd.func17, Tryd.ntmps17
    go_wp2
    go_end0
    exact ⟨_, rfl, rfl, h, Upd.refl _ _⟩
  · have hx1 : (x != 0) = true := by simpa using hx0
    clear hx0
    by_cases he : e = 0
    · subst he
      go_enter Tryd.func17, Tryd.ntmps17
      go_wp2_with (go_at_call 40; refine (note_zero _ _ _ _ (by assumption) (by assumption)).mono ?_; rintro e w' ⟨rfl, rfl⟩)
      go_end0
      exact ⟨_, rfl, rfl, .mk_ (hb.set_ 0 _) rfl (hs.set_ h3) h1 h2 h3, Upd.set1 _ _ _ _⟩
    · have hx : (e == 0) = false := by simp [he]
      have e1 : rFail x (e, bs) = (e, bs) := by simp [rFail, he]
      rw [e1]
      clear he e1
      go_enter Tryd.func17, Tryd.ntmps17
      go_wp2_with (go_at_call 40; refine (note_other _ _ _ _ _ (by assumption) (by assumption)).mono ?_; rintro e w' ⟨rfl, rfl⟩)
      go_end0
      exact ⟨_, rfl, rfl, h, Upd.refl _ _⟩

def rDone (s : RS) : Int := if s.1 ≠ 0 then s.1 else if s.2 = [] then 0 else 3

set_option maxHeartbeats 400000 in
theorem RDone_any (g : Nat) (s : RS) (w : World) (I : Nat → Prop) (h : RdrAt w I g s) :
    Calls Tryd.prog 10 #[.pointer (some ⟨g, 0, none⟩)] w fun e w' => e = .returned (.int .i64 (rDone s)) ∧ w = w' := by
  obtain ⟨A1, c1, x0, x1, f0, f1, hb, hs, h1, h2, h3⟩ := h.open_
  obtain ⟨e, bs⟩ := s
  by_cases he : e = 0
  · subst he
    cases bs with
    | nil =>
      go_enter Tryd.func10, Tryd.ntmps10
      go_wp2_with (go_at_call 24; refine (ok_any _ _ _ _ (by first | assumption | exact y0 _)).mono ?_; rintro e w' ⟨rfl, rfl⟩)
      go_ret
      exact ⟨rfl, rfl⟩
    | cons b t =>
      go_enter Tryd.func10, Tryd.ntmps10
      go_wp2_with (go_at_call 24; refine (ok_any _ _ _ _ (by first | assumption | exact y0 _)).mono ?_; rintro e w' ⟨rfl, rfl⟩)
      go_ret
      exact ⟨rfl, rfl⟩
  · have hx : (e == 0) = false := by simp [he]
    have e1 : rDone (e, bs) = e := by simp [rDone, he]
    rw [e1]
    clear he e1
    go_enter Tryd.func10, Tryd.ntmps10
    go_wp2_with (go_at_call 24; refine (ok_any _ _ _ _ (by first | assumption | exact y0 _)).mono ?_; rintro e w' ⟨rfl, rfl⟩)
    go_ret
    exact ⟨rfl, rfl⟩

set_option maxHeartbeats 400000 in
theorem Read_any (A : Option Addr) (c : Nat) (bs : List UInt8) (w : World) (I : Nat → Prop) (hI : ∀ k, I k → k < w.heap.size) (hA : Bs w I A bs) (hc : bs.length ≤ c) (hl : bs.length ≤ 140737488355328) :
    Calls Tryd.prog 8 #[.slice A bs.length c] w fun e w' => e = .returned (.pointer (some ⟨w.heap.size, 0, none⟩)) ∧ RdrAt w' I w.heap.size (0, bs) ∧ Upd none_ w w' := by
  go_enter Tryd.func8, Tryd.ntmps8
  go_wp2
  go_ret
  exact ⟨rfl, .mk_ (Blk.new _ _ _) rfl (Rd.alloc hA _) hc hl (fun h => by have := hI _ h; omega), (Upd.refl _ _).alloc _⟩
end Go.Proofs.YtpffaenjphnfiaaDoor
