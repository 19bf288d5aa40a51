/- Rows of notes. -/
import Derived.Test.YtpffaenjphnfiaaDoorNoteO
namespace Go.Proofs.YtpffaenjphnfiaaDoor
open Go.RowKit
attribute [local go_sem] str_size str_toList str_get

abbrev Rw := List UInt8 × Int
def rowC (r : Rw) : List Value := [str r.1, .int .i64 r.2]
def rowsC (l : List Rw) : List Value := l.flatMap rowC
theorem rowsC_len (l : List Rw) : (rowsC l).length = l.length * 2 := by
  induction l with
  | nil => rfl
  | cons r t ih =>
    have : (rowsC (r :: t)).length = 2 + (rowsC t).length := by simp [rowsC, rowC]; omega
    rw [this, ih, List.length_cons]
    omega
theorem rowsC_at : ∀ (l : List Rw) (k : Nat) (h : k < l.length), (rowsC l)[k * 2]? = some (str (l[k]).1) ∧ (rowsC l)[k * 2 + 1]? = some (.int .i64 (l[k]).2)
  | r :: t, 0, _ => by simp [rowsC, rowC]
  | r :: t, k + 1, h => by
    have ih := rowsC_at t k (by simpa using h)
    have e : rowsC (r :: t) = [str r.1, .int .i64 r.2] ++ rowsC t := rfl
    rw [e, List.getElem?_append_right (by simp; omega), List.getElem?_append_right (by simp; omega)]
    have e1 : (k + 1) * 2 - [str r.1, Value.int .i64 r.2].length = k * 2 := by simp; omega
    have e2 : (k + 1) * 2 + 1 - [str r.1, Value.int .i64 r.2].length = k * 2 + 1 := by simp; omega
    rw [e1, e2]
    exact ih
theorem rowsC_snoc (l : List Rw) (r : Rw) : rowsC (l ++ [r]) = rowsC l ++ rowC r := by simp [rowsC]
def Rws (w : World) (I : Nat → Prop) (A : Option Addr) (l : List Rw) : Prop := Rd w I 2 A l.length (rowsC l)
theorem Rws.at_ {w : World} {I : Nat → Prop} {A : Option Addr} {l : List Rw} (h : Rws w I A l) {k : Nat} (hk : k < l.length) :
    ∃ ad, A = some ad ∧ I ad.block ∧ w.cell? (ad.add (k * 2)) = some (str (l[k]).1) ∧ w.cell? ⟨(ad.add (k * 2)).block, (ad.add (k * 2)).off + 1, none⟩ = some (.int .i64 (l[k]).2) := by
  obtain ⟨ad, e, hb, hc⟩ := h.2 (by omega)
  have h2 := rowsC_at l k hk
  have e1 : (⟨(ad.add (k * 2)).block, (ad.add (k * 2)).off + 1, none⟩ : Addr) = ad.add (k * 2 + 1) := by rw [← add_of_add]; rfl
  exact ⟨ad, e, hb, hc _ _ h2.1, by rw [e1]; exact hc _ _ h2.2⟩

def amountOk (k n : Int) : Bool := if k = 3 then decide (0 ≤ n) && decide (n < 2147483648) else decide (0 < n) && decide (n < 2147483648)
set_option maxRecDepth 100000 in
set_option maxHeartbeats 400000 in
theorem amount_any (k n : Int) (w : World) : Calls Tryd.prog 29 #[.int .i64 k, .int .i64 n] w fun e w' => e = .returned (.bool (amountOk k n)) ∧ w = w' := by
  by_cases hk : k = 3
  · subst hk
    by_cases h : 0 ≤ n
    · go_enter Tryd.func29, Tryd.ntmps29
      go_wp2
      go_ret
      exact ⟨by simp [amountOk, h], rfl⟩
    · have hx : amountOk 3 n = false := by simp [amountOk]; omega
      rw [hx]
      go_enter Tryd.func29, Tryd.ntmps29
      go_wp2
      go_ret
      exact ⟨rfl, rfl⟩
  · have hkb : (k == 3) = false := by simp [hk]
    by_cases h : 0 < n
    · have hx : amountOk k n = decide (n < 2147483648) := by simp [amountOk, hk, h]
      rw [hx]
      clear hk hx
      go_enter Tryd.func29, Tryd.ntmps29
      go_wp2
      go_ret
      exact ⟨rfl, rfl⟩
    · have hx : amountOk k n = false := by simp [amountOk, hk]; omega
      rw [hx]
      clear hk hx
      go_enter Tryd.func29, Tryd.ntmps29
      go_wp2
      go_ret
      exact ⟨rfl, rfl⟩

set_option maxRecDepth 100000 in
set_option maxHeartbeats 400000 in
theorem name_any (k : Int) (l : List UInt8) (w : World) : Calls Tryd.prog 28 #[.int .i64 k, .string ⟨l.toArray⟩] w fun e w' => e = .returned (.int .i64 (if k = 3 then isinErr l else memberErr l)) ∧ Upd none_ w w' := by
  by_cases hk : k = 3
  · rw [if_pos hk]
    subst hk
    go_enter Tryd.func28, Tryd.ntmps28
    go_wp2_with fail
    refine (isin_any l _).mono ?_
    rintro e w1 ⟨rfl, hu⟩
    go_wp2
    go_ret
    exact ⟨rfl, hu⟩
  · rw [if_neg hk]
    have hkb : (k == 3) = false := by simp [hk]
    clear hk
    go_enter Tryd.func28, Tryd.ntmps28
    go_wp2_with fail
    refine (member_any l _).mono ?_
    rintro e w1 ⟨rfl, hu⟩
    go_wp2
    go_ret
    exact ⟨rfl, hu⟩

set_option maxRecDepth 100000 in
set_option maxHeartbeats 400000 in
theorem rows1_any (s : List UInt8) (n : Int) (w : World) : Calls Tryd.prog 49 #[.agg #[str s, .int .i64 n]] w fun e w' => e = .returned (.bool (!amountOk 3 n)) ∧ Upd none_ w w' := by
  go_enter Tryd.func49, Tryd.ntmps49
  go_wp2_with (go_at_call 29; refine (amount_any _ _ _).mono ?_; rintro e w' ⟨rfl, rfl⟩)
  go_ret
  exact ⟨rfl, (Upd.refl _ _).alloc _⟩

def firstBad (l : List Rw) : Bool := l.any fun r => !amountOk 3 r.2
def IxRel (l : List Rw) (w : World) (y : Value) (wr : World) : Prop := ∃ k : Nat, k ≤ l.length ∧ y = .int .i64 k ∧ (l.take k).all (fun r => amountOk 3 r.2) = true ∧ Upd none_ w wr

set_option maxRecDepth 100000 in
set_option maxHeartbeats 800000 in
theorem index_any (A : Option Addr) (c : Nat) (l : List Rw) (hl : l.length ≤ 32) (w : World) (I : Nat → Prop) (h : Rws w I A l) :
    Calls Tryd.prog 59 #[.slice A l.length c, .func (.func 49) #[] #[]] w fun e w' => (∃ n : Int, e = .returned (.int .i64 n) ∧ decide (0 ≤ n) = firstBad l) ∧ Upd none_ w w' := by
  go_enter Tryd.func59, Tryd.ntmps59
  go_wp2
  go_loopw [8] (fun y wr => IxRel l w y wr) (fun y _ => l.length - (intOf y).toNat)
  case atStart => exact ⟨0, by omega, rfl, by simp, Upd.refl _ _⟩
  case round =>
    obtain ⟨k, hk, rfl, hall, hu⟩ := hrel
    have HA := Lib.hid hall; clear hall
    have hr := Rd.upd h hu (fun _ h => h.elim)
    by_cases hlt : k < l.length
    · obtain ⟨ad, rfl, _, x0, x1⟩ := Rws.at_ hr hlt
      obtain ⟨b, hb⟩ : ∃ b, amountOk 3 (l[k]).2 = b := ⟨_, rfl⟩
      have hc := rows1_any (l[k]).1 (l[k]).2 wr
      rw [hb] at hc
      have HC := Lib.hid hc; clear hc
      go_wp2_with fail
      refine HC.out.mono ?_
      rintro e w2 ⟨rfl, hu2⟩
      cases b
      · have hx : firstBad l = true := by
          rw [firstBad, List.any_eq_true]
          exact ⟨l[k], List.getElem_mem hlt, by rw [hb]; rfl⟩
        have HX := Lib.hid hx; clear hx hb
        go_wp2
        go_ret
        exact ⟨⟨k, rfl, by rw [HX.out]; simp⟩, hu.trans hu2⟩
      · have HB := Lib.hid hb; clear hb
        go_wp2
        go_roundw
        case rel => exact ⟨k + 1, by omega, by go_num, by rw [all_take_step l (fun r => amountOk 3 r.2) k hlt, HA.out, HB.out]; rfl, hu.trans hu2⟩
        case measure => simp [intOf]; omega
    · have hx : firstBad l = false := by
        have h2 := HA.out
        rw [List.take_of_length_le (by omega)] at h2
        rw [firstBad, List.any_eq_false]
        intro r hr
        rw [List.all_eq_true] at h2
        simp [h2 r hr]
      have HX := Lib.hid hx; clear hx
      go_wp2
      go_ret
      exact ⟨⟨-1, rfl, by rw [HX.out]; decide⟩, hu⟩

set_option maxRecDepth 100000 in
set_option maxHeartbeats 800000 in
theorem contains_any (A : Option Addr) (c : Nat) (l : List Rw) (hl : l.length ≤ 32) (w : World) (I : Nat → Prop) (h : Rws w I A l) :
    Calls Tryd.prog 48 #[.slice A l.length c, .func (.func 49) #[] #[]] w fun e w' => e = .returned (.bool (firstBad l)) ∧ Upd none_ w w' := by
  go_enter Tryd.func48, Tryd.ntmps48
  go_wp2_with fail
  refine (index_any A c l hl w I h).mono ?_
  rintro e w1 ⟨⟨n, rfl, hn⟩, hu⟩
  have HN := Lib.hid hn; clear hn
  go_wp2
  go_ret
  exact ⟨by rw [← HN.out]; rfl, hu⟩

/-! ### Whether names rise -/
def lessB (a b : List UInt8) : Bool := Op.bytesLess a b
def risesB : List (List UInt8) → Bool
  | a :: b :: t => lessB a b && risesB (b :: t)
  | _ => true
theorem rises_take (l : List (List UInt8)) : ∀ k, k + 1 < l.length → (∀ (h : k + 1 < l.length), risesB (l.take (k + 2)) = (risesB (l.take (k + 1)) && lessB (l[k]'(by omega)) l[k + 1])) := by
  induction l with
  | nil => intro k h; simp at h
  | cons a t ih =>
    intro k h h'
    cases t with
    | nil => simp at h
    | cons b t =>
      cases k with
      | zero => simp [risesB]
      | succ k =>
        have h2 := ih k (by simpa using h) (by simpa using h)
        simp only [List.take_succ_cons] at h2 ⊢
        simp only [risesB, List.getElem_cons_succ, h2, Bool.and_assoc]
theorem rises_false (l : List (List UInt8)) : ∀ k (h : k + 1 < l.length), lessB (l[k]'(by omega)) l[k + 1] = false → risesB l = false := by
  induction l with
  | nil => intro k h; simp at h
  | cons a t ih =>
    intro k h hf
    cases t with
    | nil => simp at h
    | cons b t =>
      cases k with
      | zero => simp at hf; simp [risesB, hf]
      | succ k => simp only [risesB]; rw [ih k (by simpa using h) (by simpa using hf)]; simp

def SRel (l : List Rw) (w : World) (y : Value) (wr : World) : Prop := ∃ k : Nat, y = .int .i64 ((k : Int) + 1) ∧ (k + 1 ≤ l.length ∨ k = 0) ∧ risesB ((l.map (·.1)).take (k + 1)) = true ∧ Dr w wr

set_option maxRecDepth 100000 in
set_option maxHeartbeats 800000 in
theorem sorted_any (A : Option Addr) (c : Nat) (l : List Rw) (hl : l.length ≤ 1048576) (w : World) (I : Nat → Prop) (h : Rws w I A l) :
    Calls Tryd.prog 47 #[.slice A l.length c] w fun e w' => e = .returned (.bool (risesB (l.map (·.1)))) ∧ Dr w w' := by
  go_enter Tryd.func47, Tryd.ntmps47
  go_wp2
  go_loopw [3] (fun y wr => SRel l w y wr) (fun y _ => (l.length + 1) - (intOf y).toNat)
  case atStart =>
    refine ⟨0, rfl, .inr rfl, ?_, Dr.refl _⟩
    cases l with
    | nil => rfl
    | cons r t => rfl
  case round =>
    obtain ⟨k, rfl, hk, hr, hd⟩ := hrel
    obtain ⟨m, rfl⟩ := hd
    have HR := Lib.hid hr; clear hr
    have HK := Lib.hid hk; clear hk
    by_cases hlt : k + 1 < l.length
    · obtain ⟨ad, rfl, _, x0, x1⟩ := h.at_ (k := k) (by omega)
      obtain ⟨ad2, ha2, _, y0, y1⟩ := h.at_ (k := k + 1) hlt
      obtain rfl : ad = ad2 := Option.some.inj ha2
      clear ha2 x1 y1
      have ht := rises_take (l.map (·.1)) k (by simpa using hlt) (by simpa using hlt)
      have hf := rises_false (l.map (·.1)) k (by simpa using hlt)
      simp only [List.getElem_map] at ht hf
      have HT := Lib.hid ht; clear ht
      have HF := Lib.hid hf; clear hf
      obtain ⟨b, hb⟩ : ∃ b, Op.bytesLess (l[k]).1 (l[k + 1]).1 = b := ⟨_, rfl⟩
      have i1 : ((k : Int) + 1 - 1).toNat = k := by omega
      have hlt' : (k : Int) + 1 < (l.length : Int) := by omega
      have htn : ((k : Int) + 1).toNat = k + 1 := by omega
      cases b
      · have hx := HF.out hb
        have HX := Lib.hid hx; clear hx
        go_wp2
        go_quiet (fail)
        go_wp2
        go_ret
        exact ⟨by rw [HX.out]; rfl, ((Dr.refl _).drewN _).drewN _⟩
      · go_wp2
        go_quiet (fail)
        go_wp2
        go_roundw
        case rel => exact ⟨k + 1, by simp, by omega, by rw [HT.out, HR.out, lessB, hb]; rfl, by first | exact (Dr.refl _).drewN _ | exact ((Dr.refl _).drewN _).drewN _⟩
        case measure => simp [intOf]; omega
    · have hx := HR.out
      have hk := HK.out
      rw [List.take_of_length_le (by simp; omega)] at hx
      have HX := Lib.hid hx; clear hx hk
      go_wp2
      go_ret
      exact ⟨by rw [HX.out]; rfl, (Dr.refl _).drewN _⟩
end Go.Proofs.YtpffaenjphnfiaaDoor
