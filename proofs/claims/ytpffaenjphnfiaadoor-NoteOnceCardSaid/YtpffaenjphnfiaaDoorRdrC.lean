/- The reader of bytes: numbers and texts. -/
import Derived.Test.YtpffaenjphnfiaaDoorRdrB
namespace Go.Proofs.YtpffaenjphnfiaaDoor
open Go.RowKit

def Two63 : Nat := 9223372036854775808
theorem two63 : Two63 = 9223372036854775808 := rfl

theorem wordAux_bd : ∀ (bs : List UInt8) (i n : Nat), n < 128 ^ i → i ≤ 9 → (wordAux i n bs).2.1 < 18446744073709551616
  | [], _, _, _, _ => by simp [wordAux]
  | c :: t, i, n, hn, hi => by
    have hc : c.toNat < 256 := UInt8.toNat_lt _
    unfold wordAux
    split
    · simp
    rename_i h9
    have hb : n + c.toNat % 128 * 128 ^ i < 18446744073709551616 := by
      have h5 : (128 : Nat) ^ i ≤ 128 ^ 9 := Nat.pow_le_pow_right (by decide) hi
      have e : (128 : Nat) ^ 9 = 9223372036854775808 := by decide
      rcases Nat.lt_or_ge i 9 with h | h
      · have h2 := pow_bd i (by omega)
        have h3 : c.toNat % 128 * 128 ^ i ≤ 127 * 72057594037927936 := Nat.mul_le_mul (by omega) h2
        omega
      · obtain rfl : i = 9 := by omega
        have h3 : c.toNat % 128 * 128 ^ 9 ≤ 1 * 128 ^ 9 := Nat.mul_le_mul_right _ (by omega)
        omega
    split
    · refine wordAux_bd t (i + 1) _ ?_ ?_
      · have h1 : c.toNat % 128 * 128 ^ i ≤ 127 * 128 ^ i := Nat.mul_le_mul_right _ (by omega)
        rw [Nat.pow_succ]
        omega
      · omega
    split
    · simp
    · exact hb
theorem rWord_bd (s : RS) : (rWord s).1 < 18446744073709551616 := by
  unfold rWord
  split
  · simp
  split
  · exact wordAux_bd _ 0 0 (by simp) (by simp)
  · simp

def rCount (most : Int) (s : RS) : Int × RS :=
  if s.1 ≠ 0 then (0, s) else
  if (rWord s).2.1 ≠ 0 then (0, ((rWord s).2.1, s.2)) else
  if Two63 ≤ (rWord s).1 then (0, (3, s.2)) else
  if most < (rWord s).1 then (0, (2, s.2)) else (((rWord s).1 : Int), (rWord s).2)

theorem rpost_of {w w' : World} {I : Nat → Prop} {g : Nat} {V : Int → Value → World → Prop} {p : Int × RS} {n : Int} {s : RS} {v : Value} (e : p = (n, s)) (hv : V n v w') (h : RdrAt w' I g s) (hu : Upd (· = g) w w') :
    RPost I g w p.2 (V p.1) (.returned v) w' := by
  subst e
  exact ⟨_, rfl, hv, h, hu⟩

theorem shr63 (n : Nat) (h : n < 18446744073709551616) : (((n : Int) / 9223372036854775808) == 1) = decide (Two63 ≤ n) := by
  have e := two63
  rw [Bool.eq_iff_iff, beq_iff_eq, decide_eq_true_eq]
  omega
theorem wrap_lt63 (n : Nat) (h : ¬ Two63 ≤ n) : wrap64 (n : Int) = n := by
  have e := two63
  unfold wrap64
  omega

set_option maxHeartbeats 400000 in
theorem count_bad (g : Nat) (s : RS) (most : Int) (w : World) (I : Nat → Prop) (h : RdrAt w I g s) (he : (s.1 == 0) = false) :
    Calls Tryd.prog 18 #[.pointer (some ⟨g, 0, none⟩), .int .i64 most] w (RPost I g w s (VI 0)) := by
  obtain ⟨A1, c1, x0, x1, f0, f1, hb, hs, h1, h2, h3⟩ := h.open_
  go_enter Tryd.func18, Tryd.ntmps18
  go_wp2_with (go_at_call 24; refine (ok_any _ _ _ _ (by first | assumption | exact y0 _)).mono ?_; rintro e w' ⟨rfl, rfl⟩)
  go_ret
  exact ⟨_, rfl, rfl, h, Upd.refl _ _⟩

set_option maxHeartbeats 400000 in
theorem count_good (g : Nat) (bs : List UInt8) (most : Int) (w : World) (I : Nat → Prop) (h : RdrAt w I g (0, bs)) :
    Calls Tryd.prog 18 #[.pointer (some ⟨g, 0, none⟩), .int .i64 most] w (RPost I g w (rCount most (0, bs)).2 (VI (rCount most (0, bs)).1)) := by
  obtain ⟨A1, c1, x0, x1, f0, f1, hb, hs, h1, h2, h3⟩ := h.open_
  go_enter Tryd.func18, Tryd.ntmps18
  go_wp2_with (go_at_call 24; refine (ok_any _ _ _ _ (by first | assumption | exact y0 _)).mono ?_; rintro e w' ⟨rfl, rfl⟩)
  refine (word_any g (0, bs) w I h).mono ?_
  rintro e w1 ⟨v, rfl, hv, hr, hu⟩
  have hbd := rWord_bd (0, bs)
  have hC : rCount most (0, bs) = if (rWord (0, bs)).2.1 ≠ 0 then (0, ((rWord (0, bs)).2.1, bs)) else if Two63 ≤ (rWord (0, bs)).1 then (0, (3, bs)) else if most < (rWord (0, bs)).1 then (0, (2, bs)) else (((rWord (0, bs)).1 : Int), (rWord (0, bs)).2) := rfl
  generalize rWord (0, bs) = p at *
  generalize rCount most (0, bs) = q at *
  obtain ⟨n, e1, b1⟩ := p
  obtain rfl := hv
  have hs1 := Rd.upd hs hu (by rintro k rfl; exact h3)
  obtain ⟨A2, c2, y0, y1, g0, g1, hb2, hs2, i1, i2, i3⟩ := hr.open_
  have HC := Lib.hid hC; clear hC
  by_cases he : e1 = 0
  · subst he
    have e63 := shr63 n hbd
    have e64 := wrap_lt63 n
    by_cases hbig : Two63 ≤ n
    · rw [decide_eq_true hbig] at e63
      have hfin : q = (0, (3, bs)) := by rw [HC.out]; simp [hbig]
      have HF := Lib.hid hfin; clear hfin hbig e64 hbd
      go_wp2_with (first | (go_at_call 24; refine (ok_any _ _ _ _ (by first | assumption | exact y0 _)).mono ?_; rintro e w' ⟨rfl, rfl⟩) | (go_at_call 40; refine (note_zero _ _ _ _ (by assumption) (by assumption)).mono ?_; rintro e w' ⟨rfl, rfl⟩))
      refine (back_any g (3, b1) A1 c1 bs _ I (.mk_ (hb2.set_ 0 _) rfl (hs2.set_ i3) i1 i2 i3) (Bs.set_ hs1 i3) h1 h2).mono ?_
      rintro e w2 ⟨v, rfl, rfl, hr2, hu2⟩
      go_wp2
      go_ret
      exact rpost_of HF.out rfl hr2 ((hu.trans (Upd.set1 _ _ _ _)).trans hu2)
    · have ew := e64 hbig
      rw [decide_eq_false hbig] at e63
      by_cases hm : most < (n : Int)
      · have hfin : q = (0, (2, bs)) := by rw [HC.out]; simp [hbig, hm]
        have HF := Lib.hid hfin; clear hfin hbig e64 hbd
        go_wp2_with (first | (go_at_call 24; refine (ok_any _ _ _ _ (by first | assumption | exact y0 _)).mono ?_; rintro e w' ⟨rfl, rfl⟩) | (go_at_call 40; refine (note_zero _ _ _ _ (by assumption) (by assumption)).mono ?_; rintro e w' ⟨rfl, rfl⟩))
        refine (back_any g (2, b1) A1 c1 bs _ I (.mk_ (hb2.set_ 0 _) rfl (hs2.set_ i3) i1 i2 i3) (Bs.set_ hs1 i3) h1 h2).mono ?_
        rintro e w2 ⟨v, rfl, rfl, hr2, hu2⟩
        go_wp2
        go_ret
        exact rpost_of HF.out rfl hr2 ((hu.trans (Upd.set1 _ _ _ _)).trans hu2)
      · have hfin : q = ((n : Int), (0, b1)) := by rw [HC.out]; simp [hbig, hm]
        have HF := Lib.hid hfin; clear hfin hbig e64 hbd
        go_wp2_with (first | (go_at_call 24; refine (ok_any _ _ _ _ (by first | assumption | exact y0 _)).mono ?_; rintro e w' ⟨rfl, rfl⟩) | (go_at_call 40; refine (note_zero _ _ _ _ (by assumption) (by assumption)).mono ?_; rintro e w' ⟨rfl, rfl⟩))
        refine (back_any g (0, b1) A1 c1 bs _ I hr hs1 h1 h2).mono ?_
        rintro e w2 ⟨v, rfl, rfl, hr2, hu2⟩
        go_wp2
        go_ret
        exact rpost_of HF.out (congrArg (Value.int .i64) ew) hr2 (hu.trans hu2)
  · have hx : (e1 == 0) = false := by simp [he]
    have hfin : q = (0, (e1, bs)) := by rw [HC.out]; simp [he]
    have hbk : rBack bs (e1, b1) = (e1, bs) := by simp [rBack, he]
    have HF := Lib.hid hfin; clear hfin hbd he
    have HK := Lib.hid hbk; clear hbk
    go_wp2_with (first | (go_at_call 24; refine (ok_any _ _ _ _ (by first | assumption | exact y0 _)).mono ?_; rintro e w' ⟨rfl, rfl⟩) | (go_at_call 40; refine (note_zero _ _ _ _ (by assumption) (by assumption)).mono ?_; rintro e w' ⟨rfl, rfl⟩))
    refine (back_any g (e1, b1) A1 c1 bs _ I hr hs1 h1 h2).mono ?_
    rintro e w2 ⟨v, rfl, rfl, hr2, hu2⟩
    rw [HK.out] at hr2
    go_wp2
    go_ret
    exact rpost_of HF.out rfl hr2 (hu.trans hu2)

theorem count_any (g : Nat) (s : RS) (most : Int) (w : World) (I : Nat → Prop) (h : RdrAt w I g s) :
    Calls Tryd.prog 18 #[.pointer (some ⟨g, 0, none⟩), .int .i64 most] w (RPost I g w (rCount most s).2 (VI (rCount most s).1)) := by
  obtain ⟨e, bs⟩ := s
  by_cases he : e = 0
  · subst he
    exact count_good g bs most w I h
  · have e1 : rCount most (e, bs) = (0, (e, bs)) := by simp [rCount, he]
    rw [e1]
    exact count_bad g (e, bs) most w I h (by simpa using he)

def rNumber (s : RS) : Int × RS := (zag (rWord s).1, (rWord s).2)

set_option maxHeartbeats 400000 in
theorem number_any (g : Nat) (s : RS) (w : World) (I : Nat → Prop) (h : RdrAt w I g s) :
    Calls Tryd.prog 21 #[.pointer (some ⟨g, 0, none⟩)] w (RPost I g w (rNumber s).2 (VI (rNumber s).1)) := by
  have hbd := rWord_bd s
  unfold rNumber
  generalize hp : rWord s = p at *
  have HP := Lib.hid hp; clear hp
  obtain ⟨n, s1⟩ := p
  have hz := zag_eq n hbd
  go_enter Tryd.func21, Tryd.ntmps21
  go_wp2_with fail
  refine (word_any g s w I h).mono ?_
  rw [HP.out]
  rintro e w1 ⟨v, rfl, rfl, hr, hu⟩
  go_wp2
  go_ret
  exact ⟨_, rfl, rfl, hr, hu⟩

set_option maxHeartbeats 400000 in
theorem byte_any (g : Nat) (s : RS) (w : World) (I : Nat → Prop) (h : RdrAt w I g s) :
    Calls Tryd.prog 15 #[.pointer (some ⟨g, 0, none⟩)] w (RPost I g w (rBytes 1 s).2 (fun v _ => v = .int .u8 (((rBytes 1 s).1.headD 0).toNat : Int))) := by
  generalize hp : rBytes 1 s = p at *
  have HP := Lib.hid hp; clear hp
  obtain ⟨l, s1⟩ := p
  go_enter Tryd.func15, Tryd.ntmps15
  go_wp2_with fail
  refine (bytes_any g 1 s w I h).mono ?_
  rw [HP.out]
  rintro e w1 ⟨v, rfl, ⟨A, c, rfl, hc, hb⟩, hr, hu⟩
  cases l with
  | nil =>
    go_wp2
    go_ret
    exact ⟨_, rfl, rfl, hr, hu⟩
  | cons b t =>
    obtain ⟨a, rfl, _, hx⟩ := hb.at_ (k := 0) (by simp)
    rw [add_zero_] at hx
    simp at hx
    go_wp2
    go_ret
    exact ⟨_, rfl, rfl, hr, hu⟩

set_option maxHeartbeats 400000 in
theorem wide_bad (g : Nat) (s : RS) (w : World) (I : Nat → Prop) (h : RdrAt w I g s) (he : (s.1 == 0) = false) :
    Calls Tryd.prog 23 #[.pointer (some ⟨g, 0, none⟩)] w (RPost I g w s (fun v _ => v = .agg #[.int .i64 0, .int .u64 0])) := by
  obtain ⟨A1, c1, x0, x1, f0, f1, hb, hs, h1, h2, h3⟩ := h.open_
  have hlt := h.lt
  have y0 := fun o => (World.cell?_alloc_lt w o ⟨g, 0, none⟩ hlt).trans x0
  go_enter Tryd.func23, Tryd.ntmps23
  go_wp2_with (go_at_call 24; refine (ok_any _ _ _ _ (by first | assumption | exact y0 _)).mono ?_; rintro e w' ⟨rfl, rfl⟩)
  exact bodyPost_ret (v := .agg #[.int .i64 0, .int .u64 0]) (by simp [results, Tryd.results23, go_sem]) rfl ⟨_, rfl, rfl, h.upd ((Upd.refl none_ w).alloc _) (fun h => h) (fun _ h => h.elim), (Upd.refl _ _).alloc _⟩

def bigNum (l : List UInt8) : Nat := l.foldl (fun n c => n * 256 % 18446744073709551616 + c.toNat) 0
def rWide (s : RS) : (Int × Nat) × RS :=
  if s.1 ≠ 0 then ((0, 0), s) else
  if (rBytes 8 (rNumber s).2).2.1 ≠ 0 then ((0, 0), ((rBytes 8 (rNumber s).2).2.1, s.2)) else
  (((rNumber s).1, bigNum (rBytes 8 (rNumber s).2).1), (rBytes 8 (rNumber s).2).2)

theorem bigNum_take (l : List UInt8) (k : Nat) (hk : k < l.length) : bigNum (l.take (k + 1)) = bigNum (l.take k) * 256 % 18446744073709551616 + (l[k]).toNat := by
  rw [bigNum, bigNum, List.take_succ_eq_append_getElem hk, List.foldl_append]
  rfl
theorem bigNum_bd (l : List UInt8) : bigNum l < 18446744073709551616 := by
  rcases List.eq_nil_or_concat l with rfl | ⟨t, c, e⟩
  · decide
  · have hc : c.toNat < 256 := UInt8.toNat_lt _
    rw [e, List.concat_eq_append, bigNum, List.foldl_append]
    show List.foldl _ 0 t * 256 % 18446744073709551616 + c.toNat < _
    omega
theorem RdrAt.far {w : World} {I : Nat → Prop} {g : Nat} {s : RS} (h : RdrAt w I g s) {X i : Nat} (hg : g ≠ X) (hI : ¬ I X) (u : Value) : RdrAt (w.setCell ⟨X, i, none⟩ u) I g s :=
  h.upd (Upd.set1 w X i u) hg (by rintro k rfl; exact hI)
theorem Upd.new1 {S : Nat → Prop} {w w' : World} (h : Upd S w w') {X i : Nat} (hX : w.heap.size ≤ X) (u : Value) : Upd S w (w'.setCell ⟨X, i, none⟩ u) := h.setCell (p := ⟨X, i, none⟩) (.inr hX) u
/-- What the loop over the eight bytes keeps: the number so far, in block X. -/
def WideRel (X : Nat) (hi : Int) (l : List UInt8) (w2 : World) (y : Value) (wr : World) : Prop :=
  ∃ k : Nat, k ≤ l.length ∧ y = .int .i64 k ∧ Blk wr X 28 #[.int .i64 hi, .int .u64 (bigNum (l.take k))] ∧ Upd (· = X) w2 wr

set_option maxHeartbeats 800000 in
theorem wide_good (g : Nat) (bs : List UInt8) (w : World) (I : Nat → Prop) (hI : ∀ k, I k → k < w.heap.size) (h : RdrAt w I g (0, bs)) :
    Calls Tryd.prog 23 #[.pointer (some ⟨g, 0, none⟩)] w (RPost I g w (rWide (0, bs)).2 (fun v _ => v = .agg #[.int .i64 (rWide (0, bs)).1.1, .int .u64 (rWide (0, bs)).1.2])) := by
  obtain ⟨A1, c1, x0, x1, f0, f1, hb, hs, h1, h2, h3⟩ := h.open_
  have hlt := h.lt
  have y0 := fun o => (World.cell?_alloc_lt w o ⟨g, 0, none⟩ hlt).trans x0
  have y1 := fun o => (World.cell?_alloc_lt w o ⟨g, 1, none⟩ hlt).trans x1
  have hC : rWide (0, bs) = if (rBytes 8 (rNumber (0, bs)).2).2.1 ≠ 0 then ((0, 0), ((rBytes 8 (rNumber (0, bs)).2).2.1, bs)) else (((rNumber (0, bs)).1, bigNum (rBytes 8 (rNumber (0, bs)).2).1), (rBytes 8 (rNumber (0, bs)).2).2) := rfl
  generalize rWide (0, bs) = q at *
  generalize hp : rNumber (0, bs) = p at *
  obtain ⟨hi, s1⟩ := p
  generalize hp2 : rBytes 8 s1 = p2 at *
  obtain ⟨l, s2⟩ := p2
  have HC := Lib.hid hC; clear hC
  have HP := Lib.hid hp; clear hp
  have HP2 := Lib.hid hp2; clear hp2
  go_enter Tryd.func23, Tryd.ntmps23
  go_wp2_with (go_at_call 24; refine (ok_any _ _ _ _ (by first | assumption | exact y0 _)).mono ?_; rintro e w' ⟨rfl, rfl⟩)
  have ha := h.upd ((Upd.refl none_ w).alloc (.cells #[.int .i64 0, .int .u64 0] 28)) (fun h => h) (fun _ h => h.elim)
  refine (number_any g (0, bs) _ I ha).mono ?_
  rw [HP.out]
  rintro e w1 ⟨v, rfl, rfl, hr1, hu1⟩
  go_wp2_with fail
  generalize hX : w1.heap.size = X at *
  have HX := Lib.hid hX; clear hX
  have hb1 : Blk (w1.alloc (.cells #[.int .i64 hi, .int .u64 0] 28)) X 28 #[.int .i64 hi, .int .u64 0] := by rw [← HX.out]; exact Blk.new _ _ _
  have hu2 : Upd (· = g) (w.alloc (.cells #[.int .i64 0, .int .u64 0] 28)) (w1.alloc (.cells #[.int .i64 hi, .int .u64 0] 28)) := hu1.alloc _
  have hgX : g ≠ X := by have := hr1.lt; rw [HX.out] at this; omega
  have hr2 := hr1.upd ((Upd.refl none_ w1).alloc (.cells #[.int .i64 hi, .int .u64 0] 28)) (fun h => h) (fun _ h => h.elim)
  generalize w1.alloc (.cells #[.int .i64 hi, .int .u64 0] 28) = w1' at *
  refine (bytes_any g 8 s1 _ I hr2).mono ?_
  rw [HP2.out]
  rintro e w2 ⟨v, rfl, ⟨A, c, rfl, hc, hbl⟩, hr3, hu3⟩
  have hb2 := hb1.upd hu3 (by omega)
  have hIX : ¬ I X := by intro h; have h' := hI _ h; have := hu1.size; rw [HX.out] at this; simp at this; omega
  have hl8 : l.length ≤ 8 := by
    have := HP2.out
    unfold rBytes at this
    split at this
    · simp only [Prod.mk.injEq] at this; rw [← this.1]; simp
    split at this
    · simp only [Prod.mk.injEq] at this; rw [← this.1]; simp
    · simp only [Prod.mk.injEq] at this; rw [← this.1, List.length_take]; omega
  go_wp2
  go_loopw [27] (fun y wr => WideRel X hi l w2 y wr) (fun y _ => l.length - (intOf y).toNat)
  case atStart => exact ⟨0, by omega, rfl, by simpa [bigNum] using hb2, Upd.refl _ _⟩
  case round =>
    obtain ⟨k, hk, rfl, hbk, huk⟩ := hrel
    have z0 := hbk.cell 1
    have z1 := hbk.frozen 1
    simp at z0
    have hbd := bigNum_bd (l.take k)
    by_cases hlt2 : k < l.length
    · obtain ⟨a, rfl, haI, hca⟩ := hbl.at_ hlt2
      have hcw := huk.cell hca (by rw [block_of_add]; intro h; exact hIX (h ▸ haI))
      have hcb : l[k].toNat < 256 := UInt8.toNat_lt _
      have he := eight_eq (bigNum (l.take k)) l[k].toNat hcb
      rw [← bigNum_take l k hlt2] at he
      generalize bigNum (l.take k) = N at *
      generalize hN : bigNum (l.take (k + 1)) = N' at *
      have HN := Lib.hid hN; clear hN
      go_wp2
      go_roundw
      case rel => exact ⟨k + 1, by omega, by go_num, by rw [HN.out]; exact hbk.set_ 1 _, huk.trans (Upd.set1 _ _ _ _)⟩
      case measure => simp [intOf]; omega
    · obtain rfl : k = l.length := by omega
      rw [List.take_length] at *
      have hUg : Upd (· = g) (w.alloc (.cells #[.int .i64 0, .int .u64 0] 28)) w2 := hu2.trans hu3
      have hs2 : Bs w2 I A1 bs := Rd.upd (Rd.alloc hs _) hUg (by rintro j rfl; exact h3)
      have hs3 : Bs wr I A1 bs := Rd.upd hs2 huk (by rintro j rfl; exact hIX)
      have hr4 := hr3.upd huk hgX (by rintro j rfl; exact hIX)
      have hTX : w.heap.size ≠ X := by have := hu1.size; rw [HX.out] at this; simp at this; omega
      have hT := ((Blk.new w 28 #[.int .i64 0, .int .u64 0]).upd hUg (by omega)).upd huk hTX
      go_wp2_with fail
      refine (back_any g s2 A1 c1 bs wr I hr4 hs3 h1 h2).mono ?_
      rintro e w3 ⟨v, rfl, rfl, hr5, hu5⟩
      have hT3 := hT.upd hu5 (by omega)
      have hX3 := hbk.upd hu5 (by omega)
      have t0 := hT3.cell 0
      have t1 := hT3.cell 1
      have ft0 := hT3.frozen 0
      have ft1 := hT3.frozen 1
      have v0 := hX3.cell 0
      have v1 := hX3.cell 1
      simp at t0 t1 v0 v1
      have hsz := hu1.size
      rw [HX.out] at hsz
      simp at hsz
      have hU : Upd (· = g) w w3 := ((((Upd.refl (· = g) w).alloc _).trans hUg).then_ huk (by rintro j rfl; right; omega)).trans hu5
      have hIT : ¬ I w.heap.size := fun h => by have := hI _ h; omega
      by_cases he : s2.1 = 0
      · have hx : (s2.1 == 0) = true := by simp [he]
        have hfin : q = ((hi, bigNum l), s2) := by rw [HC.out]; simp [he]
        have hbk : rBack bs s2 = s2 := by simp [rBack, he]
        rw [hbk] at hr5
        have HF := Lib.hid hfin; clear hfin hbk he
        go_wp2
        refine bodyPost_ret (v := .agg #[.int .i64 hi, .int .u64 (bigNum l)]) (by simp [results, Tryd.results23, go_sem, t0, t1]) rfl ?_
        rw [HF.out]
        exact ⟨_, rfl, rfl, (hr5.far (by omega) hIT _).far (by omega) hIT _, (hU.new1 (Nat.le_refl _) _).new1 (Nat.le_refl _) _⟩
      · have hx : (s2.1 == 0) = false := by simp [he]
        have hfin : q = ((0, 0), (s2.1, bs)) := by rw [HC.out]; simp [he]
        have hbk : rBack bs s2 = (s2.1, bs) := by simp [rBack, he]
        rw [hbk] at hr5
        have HF := Lib.hid hfin; clear hfin hbk he
        go_wp2
        refine bodyPost_ret (v := .agg #[.int .i64 0, .int .u64 0]) (by simp [results, Tryd.results23, go_sem, t0, t1]) rfl ?_
        rw [HF.out]
        exact ⟨_, rfl, rfl, (hr5.far (by omega) hIT _).far (by omega) hIT _, (hU.new1 (Nat.le_refl _) _).new1 (Nat.le_refl _) _⟩

theorem wide_any (g : Nat) (s : RS) (w : World) (I : Nat → Prop) (hI : ∀ k, I k → k < w.heap.size) (h : RdrAt w I g s) :
    Calls Tryd.prog 23 #[.pointer (some ⟨g, 0, none⟩)] w (RPost I g w (rWide s).2 (fun v _ => v = .agg #[.int .i64 (rWide s).1.1, .int .u64 (rWide s).1.2])) := by
  obtain ⟨e, bs⟩ := s
  by_cases he : e = 0
  · subst he
    exact wide_good g bs w I hI h
  · have e1 : rWide (e, bs) = ((0, 0), (e, bs)) := by simp [rWide, he]
    rw [e1]
    exact wide_bad g (e, bs) w I h (by simpa using he)

/-! ### Texts -/
def rText (most : Int) (s : RS) : List UInt8 × RS :=
  if s.1 ≠ 0 then ([], s) else
  if (rBytes (rCount most s).1.toNat (rCount most s).2).2.1 ≠ 0 then ([], ((rBytes (rCount most s).1.toNat (rCount most s).2).2.1, s.2)) else
  ((rBytes (rCount most s).1.toNat (rCount most s).2).1, (rBytes (rCount most s).1.toNat (rCount most s).2).2)
theorem rCount_nonneg (most : Int) (s : RS) : 0 ≤ (rCount most s).1 := by
  unfold rCount
  split
  · simp
  split
  · simp
  split
  · simp
  split <;> simp


set_option maxHeartbeats 400000 in
theorem text_bad (g : Nat) (s : RS) (most : Int) (w : World) (I : Nat → Prop) (h : RdrAt w I g s) (he : (s.1 == 0) = false) :
    Calls Tryd.prog 20 #[.pointer (some ⟨g, 0, none⟩), .int .i64 most] w (RPost I g w s (fun v _ => v = str [])) := by
  obtain ⟨A1, c1, x0, x1, f0, f1, hb, hs, h1, h2, h3⟩ := h.open_
  go_enter Tryd.func20, Tryd.ntmps20
  go_wp2_with (go_at_call 24; refine (ok_any _ _ _ _ (by first | assumption | exact y0 _)).mono ?_; rintro e w' ⟨rfl, rfl⟩)
  go_ret
  exact ⟨_, rfl, rfl, h, Upd.refl _ _⟩

set_option maxHeartbeats 400000 in
theorem text_good (g : Nat) (bs : List UInt8) (most : Int) (w : World) (I : Nat → Prop) (h : RdrAt w I g (0, bs)) :
    Calls Tryd.prog 20 #[.pointer (some ⟨g, 0, none⟩), .int .i64 most] w (RPost I g w (rText most (0, bs)).2 (fun v _ => v = str (rText most (0, bs)).1)) := by
  obtain ⟨A1, c1, x0, x1, f0, f1, hb, hs, h1, h2, h3⟩ := h.open_
  have hC : rText most (0, bs) = if (rBytes (rCount most (0, bs)).1.toNat (rCount most (0, bs)).2).2.1 ≠ 0 then ([], ((rBytes (rCount most (0, bs)).1.toNat (rCount most (0, bs)).2).2.1, bs)) else
    ((rBytes (rCount most (0, bs)).1.toNat (rCount most (0, bs)).2).1, (rBytes (rCount most (0, bs)).1.toNat (rCount most (0, bs)).2).2) := rfl
  have hnn := rCount_nonneg most (0, bs)
  generalize rText most (0, bs) = q at *
  generalize hp : rCount most (0, bs) = p at *
  obtain ⟨n, s1⟩ := p
  obtain ⟨n, rfl⟩ := Int.eq_ofNat_of_zero_le hnn
  simp only [Int.toNat_natCast] at hC
  generalize hp2 : rBytes n s1 = p2 at *
  obtain ⟨l, s2⟩ := p2
  have HC := Lib.hid hC; clear hC hnn
  have HP := Lib.hid hp; clear hp
  have HP2 := Lib.hid hp2; clear hp2
  go_enter Tryd.func20, Tryd.ntmps20
  go_wp2_with (go_at_call 24; refine (ok_any _ _ _ _ (by first | assumption | exact y0 _)).mono ?_; rintro e w' ⟨rfl, rfl⟩)
  refine (count_any g (0, bs) most _ I h).mono ?_
  rw [HP.out]
  rintro e w1 ⟨v, rfl, rfl, hr1, hu1⟩
  go_wp2_with fail
  refine (bytes_any g n s1 _ I hr1).mono ?_
  rw [HP2.out]
  rintro e w2 ⟨v, rfl, ⟨A, c, rfl, hc, hbl⟩, hr2, hu2⟩
  have hcv := conv_bytes (P := Tryd.prog) hbl 22 9 5 c Tryd.underlying22 Tryd.underlying5 Tryd.underlying9
  have hs2 : Bs w2 I A1 bs := Rd.upd hs (hu1.trans hu2) (by rintro j rfl; exact h3)
  go_wp2_with fail
  refine (back_any g s2 A1 c1 bs w2 I hr2 hs2 h1 h2).mono ?_
  rintro e w3 ⟨v, rfl, rfl, hr3, hu3⟩
  have hU := (hu1.trans hu2).trans hu3
  by_cases he : s2.1 = 0
  · have hx : (s2.1 == 0) = true := by simp [he]
    have hfin : q = (l, s2) := by rw [HC.out]; simp [he]
    have hbk : rBack bs s2 = s2 := by simp [rBack, he]
    rw [hbk] at hr3
    have HF := Lib.hid hfin; clear hfin hbk he
    go_wp2
    go_ret
    rw [HF.out]
    exact ⟨_, rfl, rfl, hr3, hU⟩
  · have hx : (s2.1 == 0) = false := by simp [he]
    have hfin : q = ([], (s2.1, bs)) := by rw [HC.out]; simp [he]
    have hbk : rBack bs s2 = (s2.1, bs) := by simp [rBack, he]
    rw [hbk] at hr3
    have HF := Lib.hid hfin; clear hfin hbk he
    go_wp2
    go_ret
    rw [HF.out]
    exact ⟨_, rfl, rfl, hr3, hU⟩

theorem text_any (g : Nat) (s : RS) (most : Int) (w : World) (I : Nat → Prop) (h : RdrAt w I g s) :
    Calls Tryd.prog 20 #[.pointer (some ⟨g, 0, none⟩), .int .i64 most] w (RPost I g w (rText most s).2 (fun v _ => v = str (rText most s).1)) := by
  obtain ⟨e, bs⟩ := s
  by_cases he : e = 0
  · subst he
    exact text_good g bs most w I h
  · have e1 : rText most (e, bs) = ([], (e, bs)) := by simp [rText, he]
    rw [e1]
    exact text_bad g (e, bs) most w I h (by simpa using he)
end Go.Proofs.YtpffaenjphnfiaaDoor
