/- What is wrong with a note. -/
import Derived.Test.YtpffaenjphnfiaaDoorNoteR
import Derived.Test.YtpffaenjphnfiaaDoorNoteM
namespace Go.Proofs.YtpffaenjphnfiaaDoor
open Go.RowKit
attribute [local go_sem] str_size str_toList str_get

def firstErr : List Rw → Int
  | [] => 0
  | r :: t => if isinErr r.1 ≠ 0 then isinErr r.1 else firstErr t
def rowsErr (k : Int) (l : List Rw) : Int :=
  if 32 < l.length then 2 else if firstErr l ≠ 0 then firstErr l else if risesB (l.map (·.1)) = false then 8 else if k = 10 ∧ firstBad l = true then 2 else 0
theorem firstErr_at (l : List Rw) (k : Nat) (hk : k < l.length) (h : firstErr l = firstErr (l.drop k)) :
    firstErr l = if isinErr (l[k]).1 ≠ 0 then isinErr (l[k]).1 else firstErr (l.drop (k + 1)) := by
  rw [h, List.drop_eq_getElem_cons hk]
  rfl
def FRel (l : List Rw) (w : World) (y : Value) (wr : World) : Prop := ∃ k : Nat, k ≤ l.length ∧ y = .int .i64 k ∧ firstErr l = firstErr (l.drop k) ∧ Upd none_ w wr

set_option maxRecDepth 100000 in
set_option maxHeartbeats 1600000 in
theorem rows_any (kd : Int) (A : Option Addr) (c : Nat) (l : List Rw) (hl : l.length ≤ 1048576) (w : World) (I : Nat → Prop) (h : Rws w I A l) :
    Calls Tryd.prog 30 #[.int .i64 kd, .slice A l.length c] w fun e w' => e = .returned (.int .i64 (rowsErr kd l)) ∧ Upd none_ w w' := by
  by_cases h32 : 32 < l.length
  · have hx : rowsErr kd l = 2 := by simp [rowsErr, h32]
    rw [hx]
    have h32i : (32 : Int) < (l.length : Int) := by omega
    clear hx
    go_enter Tryd.func30, Tryd.ntmps30
    go_wp2
    go_ret
    exact ⟨rfl, Upd.refl _ _⟩
  · have hx : rowsErr kd l = if firstErr l ≠ 0 then firstErr l else if risesB (l.map (·.1)) = false then 8 else if kd = 10 ∧ firstBad l = true then 2 else 0 := by simp [rowsErr, h32]
    have HX := Lib.hid hx; clear hx
    have h32i : ¬ (32 : Int) < (l.length : Int) := by omega
    go_enter Tryd.func30, Tryd.ntmps30
    go_wp2
    go_loopw [13] (fun y wr => FRel l w y wr) (fun y _ => l.length - (intOf y).toNat)
    case atStart => exact ⟨0, by omega, rfl, rfl, Upd.refl _ _⟩
    case round =>
      obtain ⟨k, hk, rfl, hf, hu⟩ := hrel
      have hr := Rd.upd h hu (fun _ h => h.elim)
      by_cases hlt : k < l.length
      · obtain ⟨ad, rfl, _, x0, x1⟩ := Rws.at_ hr hlt
        have hat := firstErr_at l k hlt hf
        obtain ⟨e, he⟩ : ∃ e, isinErr (l[k]).1 = e := ⟨_, rfl⟩
        rw [he] at hat
        have hc := isin_any (l[k]).1
        rw [he] at hc
        have HC := Lib.hid hc; have HAT := Lib.hid hat
        clear hc hat hf he
        by_cases he : e = 0
        · subst he
          go_wp2_with fail
          refine (HC.out _).mono ?_
          rintro e w2 ⟨rfl, hu2⟩
          go_wp2
          go_roundw
          case rel => exact ⟨k + 1, by omega, by go_num, by rw [HAT.out]; rfl, (hu.alloc _).trans hu2⟩
          case measure => simp [intOf]; omega
        · have heb : (e != 0) = true := by simp [he]
          have HF : Hid (rowsErr kd l = e) := by rw [Hid, HX.out, HAT.out]; simp [he]
          clear he
          go_wp2_with fail
          refine (HC.out _).mono ?_
          rintro e w2 ⟨rfl, hu2⟩
          go_wp2
          go_ret
          exact ⟨by rw [HF.out]; rfl, (hu.alloc _).trans hu2⟩
      · have hz : firstErr l = 0 := by rw [hf, List.drop_eq_nil_of_le (by omega)]; rfl
        have HX2 : Hid (rowsErr kd l = if risesB (l.map (·.1)) = false then 8 else if kd = 10 ∧ firstBad l = true then 2 else 0) := by rw [Hid, HX.out, hz]; rfl
        clear hz hf HX
        have hs := sorted_any A c l hl wr I hr
        have hct := contains_any A c l (by omega)
        obtain ⟨b, hb⟩ : ∃ b, risesB (l.map (·.1)) = b := ⟨_, rfl⟩
        obtain ⟨b2, hb2⟩ : ∃ b2, firstBad l = b2 := ⟨_, rfl⟩
        rw [hb] at hs HX2
        rw [hb2] at hct HX2
        have HS := Lib.hid hs; have HCT := Lib.hid hct
        clear hs hct hb hb2
        cases b
        · go_wp2_with fail
          refine HS.out.mono ?_
          rintro e w2 ⟨rfl, hd⟩
          go_wp2
          go_ret
          exact ⟨by rw [HX2.out]; rfl, hu.trans (hd.upd _)⟩
        · by_cases h10 : kd = 10
          · have h10b : (kd == 10) = true := by simp [h10]
            have HX3 : Hid (rowsErr kd l = if b2 = true then 2 else 0) := by rw [Hid, HX2.out]; simp [h10]
            clear h10
            go_wp2_with fail
            refine HS.out.mono ?_
            rintro e w2 ⟨rfl, hd⟩
            go_wp2_with fail
            refine (HCT.out w2 I (Rd.upd hr (hd.upd none_) (fun _ h => h.elim))).mono ?_
            rintro e w3 ⟨rfl, hu3⟩
            cases b2
            · go_wp2
              go_ret
              exact ⟨by rw [HX3.out]; rfl, (hu.trans (hd.upd _)).trans hu3⟩
            · go_wp2
              go_ret
              exact ⟨by rw [HX3.out]; rfl, (hu.trans (hd.upd _)).trans hu3⟩
          · have h10b : (kd == 10) = false := by simp [h10]
            have HX3 : Hid (rowsErr kd l = 0) := by rw [Hid, HX2.out]; simp [h10]
            clear h10
            go_wp2_with fail
            refine HS.out.mono ?_
            rintro e w2 ⟨rfl, hd⟩
            go_wp2
            go_ret
            exact ⟨by rw [HX3.out]; rfl, hu.trans (hd.upd _)⟩
end Go.Proofs.YtpffaenjphnfiaaDoor
