/- Whether two notes are the same. -/
import Derived.Test.YtpffaenjphnfiaaDoorDec
namespace Go.Proofs.YtpffaenjphnfiaaDoor
open Go.RowKit
attribute [local go_sem] str_size str_toList str_get

theorem arr_eq (a b : List UInt8) : decide ((⟨a.toArray⟩ : ByteArray) = ⟨b.toArray⟩) = decide (a = b) := by
  by_cases h : a = b
  · subst h; simp
  · have : (⟨a.toArray⟩ : ByteArray) ≠ ⟨b.toArray⟩ := fun e => h (by injection e with e; simpa using e)
    simp [h]

def rwNe (a b : Rw) : Bool := !(decide (a.1 = b.1) && decide (a.2 = b.2))
theorem rwNe_false {a b : Rw} (h : rwNe a b = false) : a = b := by
  simp [rwNe] at h
  exact Prod.ext h.1 h.2
theorem rwNe_true {a b : Rw} (h : rwNe a b = true) : a ≠ b := by
  rintro rfl
  simp [rwNe] at h
set_option maxRecDepth 100000 in
theorem rw_ne (a b : Rw) (W : World) : (binOp .neq 49 (.agg #[str a.1, .int .i64 a.2]) (.agg #[str b.1, .int .i64 b.2])).run Tryd.prog W = .ok (.bool (rwNe a b)) W := by
  obtain ⟨x, m⟩ := a
  obtain ⟨y, n⟩ := b
  go_simp
  by_cases h1 : x = y
  · by_cases h2 : m = n <;> simp [rwNe, h1, h2]
  · simp [rwNe, h1]

def trEq (a b : Trd) : Bool := decide (a.id = b.id) && (decide (a.buyer = b.buyer) && (decide (a.seller = b.seller) && (decide (a.isin = b.isin) && (decide (a.qty = b.qty) && decide (a.price = b.price)))))
set_option maxRecDepth 100000 in
theorem tr_eq (a b : Trd) (W : World) : (binOp .eql 24 (.agg (trA a)) (.agg (trA b))).run Tryd.prog W = .ok (.bool (trEq a b)) W := by
  obtain ⟨a1, a2, a3, a4, a5, a6⟩ := a
  obtain ⟨b1, b2, b3, b4, b5, b6⟩ := b
  go_simp
  by_cases h1 : a1 = b1
  · by_cases h2 : a2 = b2
    · by_cases h3 : a3 = b3
      · by_cases h4 : a4 = b4
        · by_cases h5 : a5 = b5
          · by_cases h6 : a6 = b6 <;> simp [trEq, h1, h2, h3, h4, h5, h6]
          · simp [trEq, h1, h2, h3, h4, h5]
        · simp [trEq, h1, h2, h3, h4]
      · simp [trEq, h1, h2, h3]
    · simp [trEq, h1, h2]
  · simp [trEq, h1]
def wdEq (h1 l1 h2 l2 : Int) : Bool := decide (h1 = h2) && decide (l1 = l2)
set_option maxRecDepth 100000 in
theorem wd_eq (h1 l1 h2 l2 : Int) (W : World) : (binOp .eql 28 (.agg #[.int .i64 h1, .int .u64 l1]) (.agg #[.int .i64 h2, .int .u64 l2])).run Tryd.prog W = .ok (.bool (wdEq h1 l1 h2 l2)) W := by
  go_simp
  by_cases e1 : h1 = h2
  · by_cases e2 : l1 = l2 <;> simp [wdEq, e1, e2]
  · simp [wdEq, e1]

def EqRel (l m : List Rw) (w : World) (y : Value) (wr : World) : Prop := ∃ k : Nat, k ≤ l.length ∧ y = .int .i64 k ∧ Hid (l.take k = m.take k) ∧ Dr w wr
theorem rtake_step {xs ys : List Rw} {k : Nat} (h : xs.take k = ys.take k) (hk : k < xs.length) (hk' : k < ys.length) (he : xs[k] = ys[k]) : xs.take (k + 1) = ys.take (k + 1) := by
  rw [List.take_succ_eq_append_getElem hk, List.take_succ_eq_append_getElem hk', h, he]

set_option maxRecDepth 100000 in
set_option maxHeartbeats 1000000 in
theorem eqrows_any (A B : Option Addr) (c d : Nat) (l m : List Rw) (hl : l.length ≤ 1048576) (w : World) (I J : Nat → Prop) (ha : Rws w I A l) (hb : Rws w J B m) :
    Calls Tryd.prog 14 #[.slice A l.length c, .slice B m.length d] w fun e w' => e = .returned (.bool (decide (l = m))) ∧ Dr w w' := by
  by_cases hlm : l.length = m.length
  · have Hl := Lib.hid hlm; clear hlm
    have hl1 : ((l.length : Int) != (m.length : Int)) = false := by simp; exact_mod_cast Hl.out
    go_enter Tryd.func14, Tryd.ntmps14
    go_wp2
    go_loopw [13] (fun y wr => EqRel l m w y wr) (fun y _ => l.length - (intOf y).toNat)
    case atStart => exact ⟨0, Nat.zero_le _, rfl, Lib.hid (by simp), 0, rfl⟩
    case round =>
      obtain ⟨k, hk, rfl, ht, hdr⟩ := hrel
      obtain ⟨n, rfl⟩ := hdr
      by_cases hlt : k < l.length
      · have hlt' : k < m.length := by rw [← Hl.out]; exact hlt
        obtain ⟨a, rfl, _, x0, x1⟩ := Rws.at_ ha hlt
        obtain ⟨b, rfl, _, y0, y1⟩ := Rws.at_ hb hlt'
        have hne := rw_ne l[k] m[k]
        obtain ⟨q, hq⟩ : ∃ q, rwNe l[k] m[k] = q := ⟨_, rfl⟩
        rw [hq] at hne
        have HQ := Lib.hid hq; clear hq
        cases q
        · go_wp2
          go_quiet (fail)
          go_wp2
          go_roundw
          case rel => exact ⟨k + 1, by omega, by go_num, Lib.hid (rtake_step ht.out hlt hlt' (rwNe_false HQ.out)), _, rfl⟩
          case measure => simp [intOf]; omega
        · go_wp2
          go_quiet (fail)
          go_wp2
          go_ret
          have e : decide (l = m) = false := by
            rw [decide_eq_false_iff_not]; rintro rfl; exact rwNe_true HQ.out rfl
          exact ⟨by rw [e]; rfl, ((Dr.refl _).drewN _).drewN _⟩
      · go_wp2
        go_ret
        have := Hl.out
        have e : decide (l = m) = true := by
          have h2 := ht.out
          rw [List.take_of_length_le (by omega), List.take_of_length_le (by omega)] at h2
          simpa using h2
        exact ⟨by rw [e]; rfl, (Dr.refl _).drewN _⟩
  · have Hl := Lib.hid hlm; clear hlm
    have hl1 : ((l.length : Int) != (m.length : Int)) = true := by simp; have := Hl.out; omega
    go_enter Tryd.func14, Tryd.ntmps14
    go_wp2
    go_ret
    have e : decide (l = m) = false := by
      rw [decide_eq_false_iff_not]; rintro rfl; exact Hl.out rfl
    exact ⟨by rw [e]; rfl, Dr.refl _⟩
end Go.Proofs.YtpffaenjphnfiaaDoor
