import Derived.Test.YtpffaenjphnfiaaDoorRdr
namespace Go.Proofs.YtpffaenjphnfiaaDoor
open Go.RowKit

theorem take_eq_step {xs ys : List UInt8} {k : Nat} (h : xs.take k = ys.take k) (hk : k < xs.length) (hk' : k < ys.length) (he : xs[k] = ys[k]) : xs.take (k + 1) = ys.take (k + 1) := by
  rw [List.take_succ_eq_append_getElem hk, List.take_succ_eq_append_getElem hk', h, he]
theorem ne_of_at {xs ys : List UInt8} {k : Nat} (hk : k < xs.length) (hk' : k < ys.length) (he : ¬ xs[k] = ys[k]) : decide (xs = ys) = false := by
  rw [decide_eq_false_iff_not]; rintro rfl; exact he rfl

set_option maxHeartbeats 400000 in
theorem same_any (A B : Option Addr) (c d : Nat) (xs ys : List UInt8) (w : World) (I J : Nat → Prop) (ha : Bs w I A xs) (hb : Bs w J B ys) (h1 : xs.length ≤ 140737488355328) :
    Calls Tryd.prog 7 #[.slice A xs.length c, .slice B ys.length d] w fun e w' => e = .returned (.bool (decide (xs = ys))) ∧ Dr w w' := by
  by_cases hl : xs.length = ys.length
  · have Hl := Lib.hid hl; clear hl
    have hl1 : ((xs.length : Int) != (ys.length : Int)) = false := by simp; exact_mod_cast Hl.out
    go_enter Tryd.func7, Tryd.ntmps7
    go_wp2
    go_loopw [5] (fun i wr => (∃ k : Nat, k ≤ xs.length ∧ i = .int .i64 k ∧ Hid (xs.take k = ys.take k)) ∧ Dr w wr) (fun i _ => xs.length - (intOf i).toNat)
    case atStart => exact ⟨⟨0, Nat.zero_le _, rfl, Lib.hid (by simp)⟩, 0, rfl⟩
    case round =>
      obtain ⟨⟨k, hk, rfl, ht⟩, hdr⟩ := hrel
      obtain ⟨m, rfl⟩ := hdr
      by_cases hlt : k < xs.length
      · have hlt' : k < ys.length := by rw [← Hl.out]; exact hlt
        obtain ⟨a, rfl, _, hca⟩ := ha.at_ hlt
        obtain ⟨b, rfl, _, hcb⟩ := hb.at_ hlt'
        by_cases he : xs[k] = ys[k]
        · have He := Lib.hid he; clear he
          have hne : (((xs[k].toNat : Int)) != (ys[k].toNat : Int)) = false := by rw [He.out]; simp
          go_wp2
          go_quiet (fail)
          go_wp2
          go_roundw
          case rel => exact ⟨⟨k + 1, by omega, by go_num, Lib.hid (take_eq_step ht.out hlt hlt' He.out)⟩, _, rfl⟩
          case measure => simp [intOf]; omega
        · have He := Lib.hid he; clear he
          have hne : (((xs[k].toNat : Int)) != (ys[k].toNat : Int)) = true := by
            simp only [bne_iff_ne, ne_eq, Int.natCast_inj]
            exact fun h => He.out (UInt8.toNat_inj.1 h)
          go_wp2
          go_quiet (fail)
          go_wp2
          go_ret
          exact ⟨by rw [ne_of_at hlt hlt' He.out]; rfl, ((Dr.refl _).drewN _).drewN _⟩
      · go_wp2
        go_ret
        have := Hl.out
        have e : decide (xs = ys) = true := by
          have h2 := ht.out
          rw [List.take_of_length_le (by omega), List.take_of_length_le (by omega)] at h2
          simpa using h2
        exact ⟨by rw [e]; rfl, (Dr.refl _).drewN _⟩
  · have Hl := Lib.hid hl; clear hl
    have hl1 : ((xs.length : Int) != (ys.length : Int)) = true := by simp; have := Hl.out; omega
    go_enter Tryd.func7, Tryd.ntmps7
    go_wp2
    go_ret
    have e : decide (xs = ys) = false := by
      rw [decide_eq_false_iff_not]; rintro rfl; exact Hl.out rfl
    exact ⟨by rw [e]; rfl, Dr.refl _⟩
end Go.Proofs.YtpffaenjphnfiaaDoor
