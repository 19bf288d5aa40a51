/- Names and check digits. -/
import Derived.Test.YtpffaenjphnfiaaDoorProg
import Derived.Test.YtpffaenjphnfiaaDoorBase
namespace Go.Proofs.YtpffaenjphnfiaaDoor
open Go.RowKit

def isSmall (c : Int) : Bool := decide (97 ≤ c) && decide (c ≤ 122)
def isGreat (c : Int) : Bool := decide (65 ≤ c) && decide (c ≤ 90)
def isDigit (c : Int) : Bool := decide (48 ≤ c) && decide (c ≤ 57)

set_option maxRecDepth 100000 in
set_option maxHeartbeats 400000 in
theorem small_any (c : Int) (w : World) : Calls Tryd.prog 58 #[.int .u8 c] w fun e w' => e = .returned (.bool (isSmall c)) ∧ w = w' := by
  by_cases h : 97 ≤ c
  · go_enter Tryd.func58, Tryd.ntmps58
    go_wp2
    go_ret
    exact ⟨by simp [isSmall, h], rfl⟩
  · have h' : isSmall c = false := by simp [isSmall]; omega
    go_enter Tryd.func58, Tryd.ntmps58
    go_wp2
    go_ret
    exact ⟨rfl, rfl⟩
set_option maxRecDepth 100000 in
set_option maxHeartbeats 400000 in
theorem great_any (c : Int) (w : World) : Calls Tryd.prog 66 #[.int .u8 c] w fun e w' => e = .returned (.bool (isGreat c)) ∧ w = w' := by
  by_cases h : 65 ≤ c
  · go_enter Tryd.func66, Tryd.ntmps66
    go_wp2
    go_ret
    exact ⟨by simp [isGreat, h], rfl⟩
  · have h' : isGreat c = false := by simp [isGreat]; omega
    go_enter Tryd.func66, Tryd.ntmps66
    go_wp2
    go_ret
    exact ⟨rfl, rfl⟩
set_option maxRecDepth 100000 in
set_option maxHeartbeats 400000 in
theorem digit_any (c : Int) (w : World) : Calls Tryd.prog 56 #[.int .u8 c] w fun e w' => e = .returned (.bool (isDigit c)) ∧ w = w' := by
  by_cases h : 48 ≤ c
  · go_enter Tryd.func56, Tryd.ntmps56
    go_wp2
    go_ret
    exact ⟨by simp [isDigit, h], rfl⟩
  · have h' : isDigit c = false := by simp [isDigit]; omega
    go_enter Tryd.func56, Tryd.ntmps56
    go_wp2
    go_ret
    exact ⟨rfl, rfl⟩

/-- The bytes of a text, as they are written for a loop over them. -/
def okChar (c : Int) : Bool := isSmall c || isDigit c
def memberErr (l : List UInt8) : Int := if l ≠ [] ∧ l.length ≤ 8 ∧ isSmall ((l.headD 0).toNat : Int) = true ∧ (l.all fun c => okChar (c.toNat : Int)) = true then 0 else 3

attribute [local go_sem] str_size str_toList str_get

def MemRel (l : List UInt8) (y : Value) : Prop := ∃ k : Nat, k ≤ l.length ∧ y = .int .i64 k ∧ (l.take k).all (fun c => okChar (c.toNat : Int)) = true

set_option maxRecDepth 100000 in
set_option maxHeartbeats 400000 in
theorem member_any (l : List UInt8) (w : World) : Calls Tryd.prog 46 #[.string ⟨l.toArray⟩] w fun e w' => e = .returned (.int .i64 (memberErr l)) ∧ Upd none_ w w' := by
  by_cases hnil : l = []
  · subst hnil
    go_enter Tryd.func46, Tryd.ntmps46
    go_wp2
    go_ret
    exact ⟨rfl, Upd.refl _ _⟩
  · have hpos : 0 < l.length := List.length_pos_iff.2 hnil
    have hne : l.isEmpty = false := by simpa using hnil
    have hhead : l.headD 0 = l[0] := by cases l with | nil => exact absurd rfl hnil | cons a t => rfl
    have HN := Lib.hid hnil; clear hnil
    have HH := Lib.hid hhead; clear hhead
    by_cases h8 : l.length ≤ 8
    · have h8a : decide ((8 : Int) < l.length) = false := by simp; omega
      obtain ⟨b, hb1⟩ : ∃ b, isSmall (l[0].toNat : Int) = b := ⟨_, rfl⟩
      cases b
      · have hfin : memberErr l = 3 := by unfold memberErr; rw [HH.out, hb1]; simp
        have HF := Lib.hid hfin; clear hfin
        go_enter Tryd.func46, Tryd.ntmps46
        go_wp2_with (go_at_call 58; refine (small_any _ _).mono ?_; rintro e w' ⟨rfl, rfl⟩)
        go_ret
        exact ⟨by rw [HF.out]; rfl, Upd.refl _ _⟩
      · have hfin : memberErr l = if (l.all fun c => okChar (c.toNat : Int)) = true then 0 else 3 := by unfold memberErr; rw [HH.out, hb1]; simp [HN.out, h8]
        have HF := Lib.hid hfin; clear hfin
        obtain ⟨ad, cap, w1, hrun, hcap, hb, _, hsz, hu⟩ := conv_str (P := Tryd.prog) w 9 22 5 l Tryd.underlying9 Tryd.underlying22 Tryd.underlying5
        go_enter Tryd.func46, Tryd.ntmps46
        go_wp2_with (go_at_call 58; refine (small_any _ _).mono ?_; rintro e w' ⟨rfl, rfl⟩)
        clear hrun
        go_loop [21] (fun y => MemRel l y) (fun y => l.length - (intOf y).toNat)
        case atStart => exact ⟨0, by omega, rfl, by simp⟩
        case round =>
          obtain ⟨k, hk, rfl, hall⟩ := hrel
          have HA := Lib.hid hall; clear hall
          by_cases hlt : k < l.length
          · obtain ⟨a, ha, _, hc⟩ := hb.at_ hlt
            obtain rfl : _ = a := Option.some.inj ha
            have HS : Hid (okChar (l[k].toNat : Int) = true → (l.take (k + 1)).all (fun c => okChar (c.toNat : Int)) = true) := fun h => by
              rw [all_take_step l (fun c => okChar (c.toNat : Int)) k hlt, HA.out]; exact h
            have HFF : Hid (okChar (l[k].toNat : Int) = false → ¬ (l.all fun c => okChar (c.toNat : Int)) = true) := fun h => by
              rw [all_false_at l (fun c => okChar (c.toNat : Int)) k hlt h]; simp
            obtain ⟨b2, hb2⟩ : ∃ b, isSmall (l[k].toNat : Int) = b := ⟨_, rfl⟩
            obtain ⟨b3, hb3⟩ : ∃ b, isDigit (l[k].toNat : Int) = b := ⟨_, rfl⟩
            cases b2 <;> cases b3
            · go_wp2_with (first | (go_at_call 58; refine (small_any _ _).mono ?_; rintro e w' ⟨rfl, rfl⟩) | (go_at_call 56; refine (digit_any _ _).mono ?_; rintro e w' ⟨rfl, rfl⟩))
              go_ret
              have hx := HFF.out (by rw [okChar, hb2, hb3]; rfl)
              exact ⟨by rw [HF.out, if_neg hx]; rfl, hu⟩
            all_goals
              go_wp2_with (first | (go_at_call 58; refine (small_any _ _).mono ?_; rintro e w' ⟨rfl, rfl⟩) | (go_at_call 56; refine (digit_any _ _).mono ?_; rintro e w' ⟨rfl, rfl⟩))
              go_round
              case rel => exact ⟨k + 1, by omega, by go_num, HS.out (by rw [okChar, hb2, hb3]; rfl)⟩
              case measure => simp [intOf]; omega
          · go_wp2
            go_ret
            have hx := HA.out
            rw [List.take_of_length_le (by omega)] at hx
            exact ⟨by rw [HF.out, if_pos hx]; rfl, hu⟩
    · have hfin : memberErr l = 3 := by simp [memberErr, h8]
      have HF := Lib.hid hfin; clear hfin
      have h8a : decide ((8 : Int) < l.length) = true := by simp; omega
      go_enter Tryd.func46, Tryd.ntmps46
      go_wp2
      go_ret
      exact ⟨by rw [HF.out]; rfl, Upd.refl _ _⟩

/-! ### The first 11 bytes of an ISIN -/
def bodyFrom : Nat → List UInt8 → Bool
  | _, [] => true
  | i, c :: t => (isGreat (c.toNat : Int) || (decide (2 ≤ i) && isDigit (c.toNat : Int))) && bodyFrom (i + 1) t
def bodyOf (l : List UInt8) : Bool := decide (l.length = 11) && bodyFrom 0 l
theorem bodyFrom_at (l : List UInt8) (k : Nat) (hk : k < l.length) (h : bodyFrom 0 l = bodyFrom k (l.drop k)) :
    bodyFrom 0 l = ((isGreat (l[k].toNat : Int) || (decide (2 ≤ k) && isDigit (l[k].toNat : Int))) && bodyFrom (k + 1) (l.drop (k + 1))) := by
  rw [h, List.drop_eq_getElem_cons hk]
  rfl
def BodyRel (l : List UInt8) (y : Value) : Prop := ∃ k : Nat, k ≤ l.length ∧ y = .int .i64 k ∧ bodyFrom 0 l = bodyFrom k (l.drop k)

set_option maxRecDepth 100000 in
set_option maxHeartbeats 400000 in
theorem body_any (l : List UInt8) (w : World) : Calls Tryd.prog 62 #[.string ⟨l.toArray⟩] w fun e w' => e = .returned (.bool (bodyOf l)) ∧ Upd none_ w w' := by
  by_cases h11 : l.length = 11
  · have HB : Hid (bodyOf l = bodyFrom 0 l) := by simp [Hid, bodyOf, h11]
    have h11a : ((l.length : Int) != 11) = false := by simp; omega
    have hle : l.length ≤ 11 := by omega
    clear h11
    obtain ⟨ad, cap, w1, hrun, hcap, hb, _, hsz, hu⟩ := conv_str (P := Tryd.prog) w 9 22 5 l Tryd.underlying9 Tryd.underlying22 Tryd.underlying5
    go_enter Tryd.func62, Tryd.ntmps62
    go_wp2
    clear hrun
    go_loop [11] (fun y => BodyRel l y) (fun y => l.length - (intOf y).toNat)
    case atStart => exact ⟨0, by omega, rfl, rfl⟩
    case round =>
      obtain ⟨k, hk, rfl, hall⟩ := hrel
      have HA := Lib.hid hall; clear hall
      by_cases hlt : k < l.length
      · obtain ⟨a, ha, _, hc⟩ := hb.at_ hlt
        obtain rfl : _ = a := Option.some.inj ha
        have hat := bodyFrom_at l k hlt HA.out
        obtain ⟨b2, hb2⟩ : ∃ b, isGreat (l[k].toNat : Int) = b := ⟨_, rfl⟩
        obtain ⟨b3, hb3⟩ : ∃ b, isDigit (l[k].toNat : Int) = b := ⟨_, rfl⟩
        rw [hb2, hb3] at hat
        have HAT := Lib.hid hat; clear hat
        by_cases h2 : k < 2
        · have h2a : decide ((k : Int) < 2) = true := by simp; omega
          cases b2
          · go_wp2_with (first | (go_at_call 66; refine (great_any _ _).mono ?_; rintro e w' ⟨rfl, rfl⟩) | (go_at_call 56; refine (digit_any _ _).mono ?_; rintro e w' ⟨rfl, rfl⟩))
            go_ret
            have hx : decide (2 ≤ k) = false := by simp; omega
            exact ⟨by rw [HB.out, HAT.out, hx]; rfl, hu⟩
          · go_wp2_with (first | (go_at_call 66; refine (great_any _ _).mono ?_; rintro e w' ⟨rfl, rfl⟩) | (go_at_call 56; refine (digit_any _ _).mono ?_; rintro e w' ⟨rfl, rfl⟩))
            go_round
            case rel => exact ⟨k + 1, by omega, by go_num, by rw [HAT.out]; rfl⟩
            case measure => simp [intOf]; omega
        · have h2a : decide ((k : Int) < 2) = false := by simp; omega
          have hx : decide (2 ≤ k) = true := by simp; omega
          have HX := Lib.hid hx; clear hx
          cases b2
          · cases b3
            · go_wp2_with (first | (go_at_call 66; refine (great_any _ _).mono ?_; rintro e w' ⟨rfl, rfl⟩) | (go_at_call 56; refine (digit_any _ _).mono ?_; rintro e w' ⟨rfl, rfl⟩))
              go_ret
              exact ⟨by rw [HB.out, HAT.out, HX.out]; rfl, hu⟩
            · go_wp2_with (first | (go_at_call 66; refine (great_any _ _).mono ?_; rintro e w' ⟨rfl, rfl⟩) | (go_at_call 56; refine (digit_any _ _).mono ?_; rintro e w' ⟨rfl, rfl⟩))
              go_round
              case rel => exact ⟨k + 1, by omega, by go_num, by rw [HAT.out, HX.out]; rfl⟩
              case measure => simp [intOf]; omega
          · go_wp2_with (first | (go_at_call 66; refine (great_any _ _).mono ?_; rintro e w' ⟨rfl, rfl⟩) | (go_at_call 56; refine (digit_any _ _).mono ?_; rintro e w' ⟨rfl, rfl⟩))
            go_round
            case rel => exact ⟨k + 1, by omega, by go_num, by rw [HAT.out]; rfl⟩
            case measure => simp [intOf]; omega
      · go_wp2
        go_ret
        have hx := HA.out
        rw [List.drop_eq_nil_of_le (by omega)] at hx
        exact ⟨by rw [HB.out, hx]; rfl, hu⟩
  · have HB : Hid (bodyOf l = false) := by simp [Hid, bodyOf, h11]
    have h11a : ((l.length : Int) != 11) = true := by simp; omega
    clear h11
    go_enter Tryd.func62, Tryd.ntmps62
    go_wp2
    go_ret
    exact ⟨by rw [HB.out]; rfl, Upd.refl _ _⟩
end Go.Proofs.YtpffaenjphnfiaaDoor
