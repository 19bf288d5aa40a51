/- The reader of bytes: what each of its calls does. -/
import Derived.Test.YtpffaenjphnfiaaDoorProg
import Derived.Test.YtpffaenjphnfiaaDoorBase
import Derived.Test.YtpffaenjphnfiaaDoorNums
namespace Go.Proofs.YtpffaenjphnfiaaDoor
open Go.RowKit

/-! ### The first mistake -/
set_option maxHeartbeats 400000 in
theorem ok_any (b o : Nat) (e : Int) (w : World) (h : w.cell? ⟨b, o, none⟩ = some (.int .i64 e)) :
    Calls Tryd.prog 24 #[.pointer (some ⟨b, o, none⟩)] w fun r w' => r = .returned (.bool (e == 0)) ∧ w = w' := by
  go_enter Tryd.func24, Tryd.ntmps24
  go_wp2
  go_ret
  exact ⟨rfl, rfl⟩
set_option maxHeartbeats 400000 in
theorem note_zero (b o : Nat) (x : Int) (w : World) (h : w.cell? ⟨b, o, none⟩ = some (.int .i64 0)) (hf : w.frozen? ⟨b, o, none⟩ = false) :
    Calls Tryd.prog 40 #[.pointer (some ⟨b, o, none⟩), .int .i64 x] w fun r w' => r = .returned (.tuple #[]) ∧ w.setCell ⟨b, o, none⟩ (.int .i64 x) = w' := by
  go_enter Tryd.func40, Tryd.ntmps40
  go_wp2_with (go_at_call 24; refine (ok_any _ _ _ _ (by assumption)).mono ?_; rintro e w' ⟨rfl, rfl⟩)
  go_end0
  exact ⟨rfl, rfl⟩
set_option maxHeartbeats 400000 in
theorem note_other (b o : Nat) (e x : Int) (w : World) (h : w.cell? ⟨b, o, none⟩ = some (.int .i64 e)) (he : (e == 0) = false) :
    Calls Tryd.prog 40 #[.pointer (some ⟨b, o, none⟩), .int .i64 x] w fun r w' => r = .returned (.tuple #[]) ∧ w = w' := by
  go_enter Tryd.func40, Tryd.ntmps40
  go_wp2_with (go_at_call 24; refine (ok_any _ _ _ _ (by assumption)).mono ?_; rintro e w' ⟨rfl, rfl⟩)
  go_end0
  exact ⟨rfl, rfl⟩

/-! ### The reader: its mistake, the bytes that are left -/
abbrev RS := Int × List UInt8

def RdrAt (w : World) (I : Nat → Prop) (g : Nat) (s : RS) : Prop :=
  ∃ A c, Blk w g 53 #[.int .i64 s.1, .slice A s.2.length c] ∧ Bs w I A s.2 ∧ s.2.length ≤ c ∧ s.2.length ≤ 140737488355328 ∧ ¬ I g

section
variable {w w' : World} {I S : Nat → Prop} {g : Nat} {s : RS}
theorem RdrAt.upd (h : RdrAt w I g s) (hu : Upd S w w') (hg : ¬ S g) (hd : ∀ k, S k → ¬ I k) : RdrAt w' I g s := by
  obtain ⟨A, c, hb, hs, h1, h2, h3⟩ := h
  exact ⟨A, c, hb.upd hu hg, Rd.upd hs hu hd, h1, h2, h3⟩
theorem RdrAt.lt (h : RdrAt w I g s) : g < w.heap.size := by
  obtain ⟨A, c, hb, _⟩ := h
  exact hb.lt
end

theorem RdrAt.mk_ {w : World} {I : Nat → Prop} {g : Nat} {e : Int} {A : Option Addr} {n c : Nat} {bs : List UInt8} (hb : Blk w g 53 #[.int .i64 e, .slice A n c]) (hn : n = bs.length) (hs : Bs w I A bs) (h1 : n ≤ c)
    (h2 : n ≤ 140737488355328) (h3 : ¬ I g) : RdrAt w I g (e, bs) := by
  subst hn
  exact ⟨A, c, hb, hs, h1, h2, h3⟩
theorem Bs.set_ {w : World} {I : Nat → Prop} {A : Option Addr} {bs : List UInt8} {g i : Nat} {u : Value} (hs : Bs w I A bs) (h3 : ¬ I g) : Bs (w.setCell ⟨g, i, none⟩ u) I A bs :=
  Rd.upd hs (Upd.set1 w g i u) (by rintro k rfl; exact h3)

def rBytes (n : Nat) (s : RS) : List UInt8 × RS :=
  if s.1 ≠ 0 then ([], s) else if s.2.length < n then ([], (12, s.2)) else (s.2.take n, (0, s.2.drop n))

/-- What a call of a reader's method leaves: its result, the reader's state; nothing else has turned. -/
def RPost (I : Nat → Prop) (g : Nat) (w : World) (s : RS) (V : Value → World → Prop) (e : Ending) (w' : World) : Prop :=
  ∃ v, e = .returned v ∧ V v w' ∧ RdrAt w' I g s ∧ Upd (· = g) w w'

def VBytes (I : Nat → Prop) (l : List UInt8) (v : Value) (w : World) : Prop := ∃ A c, v = .slice A l.length c ∧ l.length ≤ c ∧ Bs w I A l

set_option maxHeartbeats 400000 in
theorem bytes_bad (g n : Nat) (s : RS) (w : World) (I : Nat → Prop) (h : RdrAt w I g s) (he : (s.1 == 0) = false) :
    Calls Tryd.prog 39 #[.pointer (some ⟨g, 0, none⟩), .int .i64 n] w (RPost I g w s (VBytes I [])) := by
  have h' := h
  obtain ⟨A, c, hb, hs, h1, h2, h3⟩ := h'
  have c0 := hb.cell 0
  have c1 := hb.cell 1
  simp at c0 c1
  go_enter Tryd.func39, Tryd.ntmps39
  go_wp2_with (go_at_call 24; refine (ok_any _ _ _ _ (by assumption)).mono ?_; rintro e w' ⟨rfl, rfl⟩)
  go_ret
  exact ⟨_, rfl, ⟨none, 0, rfl, by simp, Rd.nil_⟩, h, Upd.refl _ _⟩

set_option maxHeartbeats 400000 in
theorem bytes_short (g n : Nat) (bs : List UInt8) (w : World) (I : Nat → Prop) (h : RdrAt w I g (0, bs)) (hn : bs.length < n) :
    Calls Tryd.prog 39 #[.pointer (some ⟨g, 0, none⟩), .int .i64 n] w (RPost I g w (12, bs) (VBytes I [])) := by
  obtain ⟨A, c, hb, hs, h1, h2, h3⟩ := h
  have c0 := hb.cell 0
  have c1 := hb.cell 1
  have f0 := hb.frozen 0
  simp at c0 c1
  go_enter Tryd.func39, Tryd.ntmps39
  go_wp2_with (first | (go_at_call 24; refine (ok_any _ _ _ _ (by assumption)).mono ?_; rintro e w' ⟨rfl, rfl⟩) | (go_at_call 40; refine (note_zero _ _ _ _ (by assumption) (by assumption)).mono ?_; rintro e w' ⟨rfl, rfl⟩))
  go_ret
  exact ⟨_, rfl, ⟨none, 0, rfl, by simp, Rd.nil_⟩, .mk_ (hb.set_ 0 _) rfl (hs.set_ h3) h1 h2 h3, Upd.set1 _ _ _ _⟩

set_option maxHeartbeats 400000 in
theorem bytes_some (g n : Nat) (bs : List UInt8) (w : World) (I : Nat → Prop) (h : RdrAt w I g (0, bs)) (hn : n ≤ bs.length) :
    Calls Tryd.prog 39 #[.pointer (some ⟨g, 0, none⟩), .int .i64 n] w (RPost I g w (0, bs.drop n) (VBytes I (bs.take n))) := by
  obtain ⟨A, c, hb, hs, h1, h2, h3⟩ := h
  have c0 := hb.cell 0
  have c1 := hb.cell 1
  have f1 := hb.frozen 1
  simp at c0 c1
  go_enter Tryd.func39, Tryd.ntmps39
  go_wp2_with (first | (go_at_call 24; refine (ok_any _ _ _ _ (by assumption)).mono ?_; rintro e w' ⟨rfl, rfl⟩) | (go_at_call 40; refine (note_zero _ _ _ _ (by assumption) (by assumption)).mono ?_; rintro e w' ⟨rfl, rfl⟩))
  · go_ret
    exact ⟨_, rfl, ⟨A, n, by rw [List.length_take, Nat.min_eq_left hn]; rfl, by simp; omega, (hs.take n hn).set_ h3⟩, .mk_ (hb.set_ 1 _) (by simp) ((Bs.drop_eq (by omega)).set_ h3) (by omega) (by omega) h3, Upd.set1 _ _ _ _⟩
  · go_ret
    exact ⟨_, rfl, ⟨A, n, by rw [List.length_take, Nat.min_eq_left hn]; rfl, by simp; omega, (hs.take n hn).set_ h3⟩, .mk_ (hb.set_ 1 _) (by simp) ((hs.drop_ne hn h1 (by assumption)).set_ h3) (by omega) (by omega) h3, Upd.set1 _ _ _ _⟩

theorem bytes_any (g n : Nat) (s : RS) (w : World) (I : Nat → Prop) (h : RdrAt w I g s) :
    Calls Tryd.prog 39 #[.pointer (some ⟨g, 0, none⟩), .int .i64 n] w (RPost I g w (rBytes n s).2 (VBytes I (rBytes n s).1)) := by
  obtain ⟨e, bs⟩ := s
  unfold rBytes
  by_cases he : e = 0
  · subst he
    by_cases hn : bs.length < n
    · simpa [hn] using bytes_short g n bs w I h hn
    · simpa [hn] using bytes_some g n bs w I h (by omega)
  · simpa [he] using bytes_bad g n (e, bs) w I h (by simpa using he)

/-! ### A word: groups of seven bits -/
def wordAux : Nat → Nat → List UInt8 → Int × Nat × List UInt8
  | _, _, [] => (12, 0, [])
  | i, n, c :: t =>
    if i = 9 ∧ 1 < c.toNat then (3, 0, []) else
    if 127 < c.toNat then wordAux (i + 1) (n + (c.toNat % 128) * 128 ^ i) t else
    if c.toNat = 0 ∧ 0 < i then (3, 0, []) else (0, n + (c.toNat % 128) * 128 ^ i, t)
def rWord (s : RS) : Nat × RS :=
  if s.1 ≠ 0 then (0, s) else
  if (wordAux 0 0 s.2).1 = 0 then ((wordAux 0 0 s.2).2.1, (0, (wordAux 0 0 s.2).2.2)) else (0, ((wordAux 0 0 s.2).1, s.2))

def VNat (n : Nat) (v : Value) (_ : World) : Prop := v = .int .u64 n

set_option maxHeartbeats 400000 in
theorem word_bad (g : Nat) (s : RS) (w : World) (I : Nat → Prop) (h : RdrAt w I g s) (he : (s.1 == 0) = false) :
    Calls Tryd.prog 41 #[.pointer (some ⟨g, 0, none⟩)] w (RPost I g w s (VNat 0)) := by
  have h' := h
  obtain ⟨A, c, hb, hs, h1, h2, h3⟩ := h'
  have c0 := hb.cell 0
  have c1 := hb.cell 1
  simp at c0 c1
  go_enter Tryd.func41, Tryd.ntmps41
  go_wp2_with (go_at_call 24; refine (ok_any _ _ _ _ (by assumption)).mono ?_; rintro e w' ⟨rfl, rfl⟩)
  go_ret
  exact ⟨_, rfl, rfl, h, Upd.refl _ _⟩

def WRel (bs : List UInt8) (x y : Value) : Prop := ∃ k n : Nat, k ≤ bs.length ∧ k ≤ 9 ∧ n < 128 ^ k ∧ x = .int .u64 n ∧ y = .int .i64 k ∧ wordAux 0 0 bs = wordAux k n (bs.drop k)

section
variable {bs : List UInt8} {k n : Nat}
theorem wordAux_at (hlt : k < bs.length) (hW : wordAux 0 0 bs = wordAux k n (bs.drop k)) : wordAux 0 0 bs = (if k = 9 ∧ 1 < bs[k].toNat then (3, 0, []) else
    if 127 < bs[k].toNat then wordAux (k + 1) (n + (bs[k].toNat % 128) * 128 ^ k) (bs.drop (k + 1)) else
    if bs[k].toNat = 0 ∧ 0 < k then (3, 0, []) else (0, n + (bs[k].toNat % 128) * 128 ^ k, bs.drop (k + 1))) := by
  rw [hW, List.drop_eq_getElem_cons hlt]
  rfl
theorem word_go (hlt : k < bs.length) (hn : n < 128 ^ k) (hW : wordAux 0 0 bs = wordAux k n (bs.drop k)) (h9 : ¬ k = 9) (hk : k ≤ 9) (hc : 127 < bs[k].toNat) :
    WRel bs (.int .u64 ((n + bs[k].toNat % 128 * 128 ^ k : Nat) : Int)) (.int .i64 ((k : Int) + 1)) := by
  refine ⟨k + 1, _, by omega, by omega, ?_, rfl, by simp, ?_⟩
  · have h1 : bs[k].toNat % 128 * 128 ^ k ≤ 127 * 128 ^ k := Nat.mul_le_mul_right _ (by omega)
    rw [Nat.pow_succ]
    omega
  · rw [wordAux_at hlt hW, if_neg (by omega), if_pos hc]
theorem word_end (hlt : k < bs.length) (hW : wordAux 0 0 bs = wordAux k n (bs.drop k)) (h9 : ¬ (k = 9 ∧ 1 < bs[k].toNat)) (hc : bs[k].toNat ≤ 127) (h0 : ¬ (bs[k].toNat = 0 ∧ 0 < k)) :
    rWord (0, bs) = (n + bs[k].toNat % 128 * 128 ^ k, (0, bs.drop (k + 1))) := by
  have e := wordAux_at hlt hW
  rw [if_neg h9, if_neg (by omega), if_neg h0] at e
  simp [rWord, e]
theorem word_err3 (hlt : k < bs.length) (hW : wordAux 0 0 bs = wordAux k n (bs.drop k)) (h : (k = 9 ∧ 1 < bs[k].toNat) ∨ (bs[k].toNat ≤ 127 ∧ bs[k].toNat = 0 ∧ 0 < k)) : rWord (0, bs) = (0, (3, bs)) := by
  have e := wordAux_at hlt hW
  have e2 : wordAux 0 0 bs = (3, 0, []) := by
    rcases h with h | ⟨h1, h2⟩
    · rw [e, if_pos h]
    · by_cases h9 : k = 9 ∧ 1 < bs[k].toNat
      · rw [e, if_pos h9]
      · rw [e, if_neg h9, if_neg (by omega), if_pos h2]
  simp [rWord, e2]
theorem word_err12 (hlt : ¬ k < bs.length) (hW : wordAux 0 0 bs = wordAux k n (bs.drop k)) : rWord (0, bs) = (0, (12, bs)) := by
  rw [List.drop_eq_nil_of_le (by omega)] at hW
  have e2 : wordAux 0 0 bs = (12, 0, []) := by rw [hW]; rfl
  simp [rWord, e2]
end

/-- The result of a word, by an equation on the specification. -/
theorem word_post {w w' : World} {I : Nat → Prop} {g : Nat} {bs : List UInt8} {n : Nat} {s : RS} (e : rWord (0, bs) = (n, s)) (h : RdrAt w' I g s) (hu : Upd (· = g) w w') :
    RPost I g w (rWord (0, bs)).2 (VNat (rWord (0, bs)).1) (.returned (.int .u64 n)) w' := by
  rw [e]
  exact ⟨_, rfl, rfl, h, hu⟩

set_option maxHeartbeats 800000 in
theorem word_good (g : Nat) (bs : List UInt8) (w : World) (I : Nat → Prop) (h : RdrAt w I g (0, bs)) :
    Calls Tryd.prog 41 #[.pointer (some ⟨g, 0, none⟩)] w (RPost I g w (rWord (0, bs)).2 (VNat (rWord (0, bs)).1)) := by
  obtain ⟨A, c, hb, hs, h1, h2, h3⟩ := h
  have c0 := hb.cell 0
  have c1 := hb.cell 1
  have f0 := hb.frozen 0
  have f1 := hb.frozen 1
  simp at c0 c1
  go_enter Tryd.func41, Tryd.ntmps41
  go_wp2_with (first | (go_at_call 24; refine (ok_any _ _ _ _ (by assumption)).mono ?_; rintro e w' ⟨rfl, rfl⟩) | (go_at_call 40; refine (note_zero _ _ _ _ (by assumption) (by assumption)).mono ?_; rintro e w' ⟨rfl, rfl⟩))
  go_loop [3, 20] (fun x y => WRel bs x y) (fun _ i => bs.length - (intOf i).toNat)
  case atStart => exact ⟨0, 0, by omega, by omega, by omega, rfl, rfl, rfl⟩
  case round =>
    obtain ⟨k, n, hk, hk9, hn, rfl, rfl, hW⟩ := hrel
    have HW := Lib.hid hW; clear hW
    have HN := Lib.hid hn; clear hn
    by_cases hlt : k < bs.length
    · obtain ⟨a, rfl, ha, hc⟩ := hs.at_ hlt
      have hcb : bs[k].toNat < 256 := UInt8.toNat_lt _
      obtain ⟨q, hq⟩ : ∃ q, ((k : Int) == 9) = q := ⟨_, rfl⟩
      by_cases he : k = 9 ∧ 1 < bs[k].toNat
      · have HE := Lib.hid he
        obtain rfl : q = true := by rw [← hq]; simp [he.1]
        have he2 := he.2
        clear he
        go_wp2_with (first | (go_at_call 40; refine (note_zero _ _ _ _ (by assumption) (by assumption)).mono ?_; rintro e w' ⟨rfl, rfl⟩))
        go_ret
        exact word_post (n := 0) (word_err3 hlt HW.out (.inl HE.out)) (.mk_ (hb.set_ 0 _) rfl (hs.set_ h3) h1 h2 h3) (Upd.set1 _ _ _ _)
      · have HE := Lib.hid he; clear he
        have hacc := acc_eq bs[k].toNat k n hcb hk9 (by have := HE.out; omega) HN.out
        obtain ⟨M, hM⟩ : ∃ M, n + bs[k].toNat % 128 * 128 ^ k = M := ⟨_, rfl⟩
        rw [hM] at hacc
        have HM := Lib.hid hM; clear hM
        obtain ⟨z, hz⟩ : ∃ z, ((bs[k].toNat : Int) == 0) = z := ⟨_, rfl⟩
        have hz2 : z = true ↔ bs[k].toNat = 0 := by rw [← hz, beq_iff_eq]; omega
        by_cases hgo : 127 < bs[k].toNat
        · have hk9' : ¬ k = 9 := fun e => HE.out ⟨e, by omega⟩
          obtain rfl : q = false := by rw [← hq]; simp; omega
          clear hz2 hz
          go_wp2
          go_round
          case rel => rw [← HM.out]; exact word_go hlt HN.out HW.out hk9' hk9 hgo
          case measure => simp [intOf]; omega
        · by_cases h0 : bs[k].toNat = 0 ∧ 0 < k
          · have H0 := Lib.hid h0
            obtain rfl : z = true := hz2.2 h0.1
            have h0k := h0.2
            have hc1 : bs[k].toNat ≤ 1 := by have := h0.1; omega
            clear h0 hz2
            cases q
            all_goals
              go_wp2_with (first | (go_at_call 40; refine (note_zero _ _ _ _ (by assumption) (by assumption)).mono ?_; rintro e w' ⟨rfl, rfl⟩))
              go_ret
              exact word_post (n := 0) (word_err3 hlt HW.out (.inr ⟨by omega, H0.out⟩)) (.mk_ (hb.set_ 0 _) rfl (hs.set_ h3) h1 h2 h3) (Upd.set1 _ _ _ _)
          · have H0 := Lib.hid h0; clear h0
            have hend := word_end hlt HW.out HE.out (by omega) H0.out
            rw [HM.out] at hend
            have HEND := Lib.hid hend; clear hend
            have hq1 : q = true → bs[k].toNat ≤ 1 := by
              rintro rfl
              have h9 : k = 9 := by simp at hq; omega
              have := HE.out
              omega
            have hz1 : z = true → k = 0 := fun h => by have := hz2.1 h; have := H0.out; omega
            clear hz2
            cases q
            case true =>
              have hc1 := hq1 rfl
              clear hq1
              cases z
              case true => exact absurd (hz1 rfl) (by rintro rfl; simp at hq)
              case false =>
                clear hz1
                go_wp2_with fail
                all_goals go_ret
                · exact word_post HEND.out (.mk_ (hb.set_ 1 _) (by simp) ((Bs.drop_eq (by omega)).set_ h3) (by omega) (by omega) h3) (Upd.set1 _ _ _ _)
                · exact word_post HEND.out (.mk_ (hb.set_ 1 _) (by simp) ((hs.drop_ne (by omega) h1 (by assumption)).set_ h3) (by omega) (by omega) h3) (Upd.set1 _ _ _ _)
            case false =>
              clear hq1
              cases z
              case true =>
                have hk0 : k ≤ 0 := by have := hz1 rfl; omega
                clear hz1
                go_wp2_with fail
                all_goals go_ret
                · exact word_post HEND.out (.mk_ (hb.set_ 1 _) (by simp) ((Bs.drop_eq (by omega)).set_ h3) (by omega) (by omega) h3) (Upd.set1 _ _ _ _)
                · exact word_post HEND.out (.mk_ (hb.set_ 1 _) (by simp) ((hs.drop_ne (by omega) h1 (by assumption)).set_ h3) (by omega) (by omega) h3) (Upd.set1 _ _ _ _)
              case false =>
                clear hz1
                go_wp2_with fail
                all_goals go_ret
                · exact word_post HEND.out (.mk_ (hb.set_ 1 _) (by simp) ((Bs.drop_eq (by omega)).set_ h3) (by omega) (by omega) h3) (Upd.set1 _ _ _ _)
                · exact word_post HEND.out (.mk_ (hb.set_ 1 _) (by simp) ((hs.drop_ne (by omega) h1 (by assumption)).set_ h3) (by omega) (by omega) h3) (Upd.set1 _ _ _ _)
    · go_wp2_with (first | (go_at_call 40; refine (note_zero _ _ _ _ (by assumption) (by assumption)).mono ?_; rintro e w' ⟨rfl, rfl⟩))
      go_ret
      exact word_post (n := 0) (word_err12 hlt HW.out) (.mk_ (hb.set_ 0 _) rfl (hs.set_ h3) h1 h2 h3) (Upd.set1 _ _ _ _)

theorem word_any (g : Nat) (s : RS) (w : World) (I : Nat → Prop) (h : RdrAt w I g s) :
    Calls Tryd.prog 41 #[.pointer (some ⟨g, 0, none⟩)] w (RPost I g w (rWord s).2 (VNat (rWord s).1)) := by
  obtain ⟨e, bs⟩ := s
  by_cases he : e = 0
  · subst he
    exact word_good g bs w I h
  · have e1 : rWord (e, bs) = (0, (e, bs)) := by simp [rWord, he]
    rw [e1]
    exact word_bad g (e, bs) w I h (by simpa using he)
end Go.Proofs.YtpffaenjphnfiaaDoor
