/- What is read was written so, and not otherwise. -/
import Derived.Test.YtpffaenjphnfiaaDoorNoteN
namespace Go.Proofs.YtpffaenjphnfiaaDoor

/-- A reader that takes the bytes enc v where it yields v. -/
def CanBy {α : Type} (enc : α → List UInt8) (r : RS → α × RS) : Prop := ∀ s, (r s).2.1 = 0 → s.1 = 0 ∧ s.2 = enc (r s).1 ++ (r s).2.2

def encWord (n : Nat) : List UInt8 := if h : n < 128 then [UInt8.ofNat n] else UInt8.ofNat (128 + n % 128) :: encWord (n / 128)
termination_by n

theorem wordAux_can : ∀ (bs : List UInt8) (i n : Nat), i ≤ 9 → (wordAux i n bs).1 = 0 → ∃ v, (wordAux i n bs).2.1 = n + v * 128 ^ i ∧ bs = encWord v ++ (wordAux i n bs).2.2 ∧ (0 < i → 0 < v)
  | [], _, _, _, h => by simp [wordAux] at h
  | c :: t, i, n, hi, h => by
    have hc : c.toNat < 256 := UInt8.toNat_lt _
    unfold wordAux at h ⊢
    by_cases h1 : i = 9 ∧ 1 < c.toNat
    · rw [if_pos h1] at h; simp at h
    · rw [if_neg h1] at h ⊢
      by_cases h2 : 127 < c.toNat
      · rw [if_pos h2] at h ⊢
        have hi9 : ¬ i = 9 := fun e => h1 ⟨e, by omega⟩
        obtain ⟨v, e1, e2, e3⟩ := wordAux_can t (i + 1) _ (by omega) h
        have hv := e3 (by omega)
        refine ⟨c.toNat % 128 + 128 * v, ?_, ?_, fun _ => by omega⟩
        · rw [e1, Nat.pow_succ, Nat.add_mul, Nat.add_assoc]
          congr 2
          rw [Nat.mul_comm (128 ^ i) 128, ← Nat.mul_assoc, Nat.mul_comm v 128]
        · rw [encWord, dif_neg (by omega)]
          have ea : (c.toNat % 128 + 128 * v) / 128 = v := by omega
          have eb : UInt8.ofNat (128 + (c.toNat % 128 + 128 * v) % 128) = c := by
            rw [show 128 + (c.toNat % 128 + 128 * v) % 128 = c.toNat by omega]
            exact UInt8.ofNat_toNat
          rw [ea, eb, List.cons_append, ← e2]
      · rw [if_neg h2] at h ⊢
        by_cases h3 : c.toNat = 0 ∧ 0 < i
        · rw [if_pos h3] at h; simp at h
        · rw [if_neg h3] at h ⊢
          refine ⟨c.toNat, ?_, ?_, fun hi => by omega⟩
          · show n + c.toNat % 128 * 128 ^ i = _
            rw [Nat.mod_eq_of_lt (by omega)]
          · rw [encWord, dif_pos (by omega)]
            simp

theorem word_can : CanBy encWord rWord := by
  intro s h
  unfold rWord at h ⊢
  by_cases h1 : s.1 ≠ 0
  · rw [if_pos h1] at h; exact absurd h h1
  · rw [if_neg h1] at h ⊢
    by_cases h2 : (wordAux 0 0 s.2).1 = 0
    · rw [if_pos h2]
      obtain ⟨v, e1, e2, _⟩ := wordAux_can s.2 0 0 (by omega) h2
      refine ⟨by simpa using h1, ?_⟩
      show s.2 = encWord (wordAux 0 0 s.2).2.1 ++ _
      rw [e1]
      simpa using e2
    · rw [if_neg h2] at h; exact absurd h h2

theorem number_can : ∃ enc, CanBy enc rNumber := by
  refine ⟨fun z => encWord (Classical.epsilon fun n => zag n = z), fun s h => ?_⟩
  have := word_can s h
  have e : (Classical.epsilon fun n => zag n = (rNumber s).1) = (rWord s).1 := by
    have : ∃ n, zag n = (rNumber s).1 := ⟨(rWord s).1, rfl⟩
    exact zag_inj _ _ (Classical.epsilon_spec this)
  show s.1 = 0 ∧ s.2 = encWord _ ++ _
  rw [e]
  exact this

theorem count_can (m : Int) : CanBy (fun z => encWord z.toNat) (rCount m) := by
  intro s h
  unfold rCount at h ⊢
  by_cases h1 : s.1 ≠ 0
  · rw [if_pos h1] at h; exact absurd h h1
  · rw [if_neg h1] at h ⊢
    by_cases h2 : (rWord s).2.1 ≠ 0
    · rw [if_pos h2] at h; exact absurd h h2
    · rw [if_neg h2] at h ⊢
      by_cases h3 : Two63 ≤ (rWord s).1
      · rw [if_pos h3] at h; simp at h
      · rw [if_neg h3] at h ⊢
        by_cases h4 : m < (rWord s).1
        · rw [if_pos h4] at h; simp at h
        · rw [if_neg h4] at h ⊢
          simpa using word_can s h

theorem bytes_ok (n : Nat) (s : RS) (h : (rBytes n s).2.1 = 0) : s.1 = 0 ∧ n ≤ s.2.length ∧ rBytes n s = (s.2.take n, (0, s.2.drop n)) := by
  unfold rBytes at h ⊢
  by_cases h1 : s.1 ≠ 0
  · rw [if_pos h1] at h; exact absurd h h1
  · rw [if_neg h1] at h ⊢
    by_cases h2 : s.2.length < n
    · rw [if_pos h2] at h; simp at h
    · rw [if_neg h2]
      exact ⟨by simpa using h1, by omega, rfl⟩

theorem text_can (m : Int) : CanBy (fun l => encWord l.length ++ l) (rText m) := by
  intro s h
  unfold rText at h ⊢
  by_cases h1 : s.1 ≠ 0
  · rw [if_pos h1] at h; exact absurd h h1
  · rw [if_neg h1] at h ⊢
    by_cases h2 : (rBytes (rCount m s).1.toNat (rCount m s).2).2.1 ≠ 0
    · rw [if_pos h2] at h; exact absurd h h2
    · rw [if_neg h2]
      obtain ⟨e1, e2, e3⟩ := bytes_ok _ _ (by simpa using h2)
      obtain ⟨f1, f2⟩ := count_can m s e1
      refine ⟨f1, ?_⟩
      rw [e3]
      show s.2 = (encWord (List.take _ _).length ++ List.take _ _) ++ List.drop _ _
      rw [List.append_assoc, List.take_append_drop, List.length_take, Nat.min_eq_left e2]
      exact f2

theorem kind_can : CanBy (fun k => [UInt8.ofNat k]) rKind := by
  intro s h
  unfold rKind at h ⊢
  obtain ⟨e1, e2, e3⟩ := bytes_ok 1 s h
  refine ⟨e1, ?_⟩
  rw [e3]
  obtain ⟨e, l⟩ := s
  cases l with
  | nil => simp at e2
  | cons b t => simp
theorem peer_can : CanBy (fun z => [UInt8.ofNat z.toNat]) rPeer := by
  intro s h
  have := kind_can s h
  exact this

theorem bigNum_snoc (l : List UInt8) (b : UInt8) : bigNum (l ++ [b]) = bigNum l * 256 % 18446744073709551616 + b.toNat := by
  rw [bigNum, bigNum, List.foldl_append]
  rfl
theorem bigNum_lt : ∀ (n : Nat) (l : List UInt8), l.length = n → n ≤ 8 → bigNum l < 256 ^ n
  | 0, l, h, _ => by
    have : l = [] := List.eq_nil_of_length_eq_zero h
    subst this
    decide
  | n + 1, l, h, hn => by
    obtain ⟨t, b, rfl⟩ : ∃ t b, l = t ++ [b] := by
      rcases List.eq_nil_or_concat l with rfl | ⟨t, b, e⟩
      · simp at h
      · exact ⟨t, b, by simpa using e⟩
    have ih := bigNum_lt n t (by simpa using h) (by omega)
    have hb : b.toNat < 256 := UInt8.toNat_lt _
    rw [bigNum_snoc, Nat.pow_succ]
    have : bigNum t * 256 % 18446744073709551616 ≤ bigNum t * 256 := Nat.mod_le _ _
    omega
theorem bigNum_inj : ∀ (n : Nat) (l m : List UInt8), l.length = n → m.length = n → n ≤ 8 → bigNum l = bigNum m → l = m
  | 0, l, m, h, k, _, _ => by
    rw [List.eq_nil_of_length_eq_zero h, List.eq_nil_of_length_eq_zero k]
  | n + 1, l, m, h, k, hn, e => by
    obtain ⟨t, b, rfl⟩ : ∃ t b, l = t ++ [b] := by
      rcases List.eq_nil_or_concat l with rfl | ⟨t, b, e⟩
      · simp at h
      · exact ⟨t, b, by simpa using e⟩
    obtain ⟨u, c, rfl⟩ : ∃ t b, m = t ++ [b] := by
      rcases List.eq_nil_or_concat m with rfl | ⟨t, b, e⟩
      · simp at k
      · exact ⟨t, b, by simpa using e⟩
    have ht : t.length = n := by simpa using h
    have hu : u.length = n := by simpa using k
    have h1 := bigNum_lt n t ht (by omega)
    have h2 := bigNum_lt n u hu (by omega)
    have hp : 256 ^ n ≤ 256 ^ 7 := Nat.pow_le_pow_right (by omega) (by omega)
    have hp2 : (256 : Nat) ^ 7 = 72057594037927936 := by decide
    have hb : b.toNat < 256 := UInt8.toNat_lt _
    have hc : c.toNat < 256 := UInt8.toNat_lt _
    rw [bigNum_snoc, bigNum_snoc, Nat.mod_eq_of_lt (by omega), Nat.mod_eq_of_lt (by omega)] at e
    have e1 : bigNum t = bigNum u := by omega
    have e2 : b = c := UInt8.toNat_inj.1 (by omega)
    rw [bigNum_inj n t u ht hu (by omega) e1, e2]

theorem wide_can : ∃ enc, CanBy enc rWide := by
  obtain ⟨en, hn⟩ := number_can
  refine ⟨fun z => en z.1 ++ (Classical.epsilon fun l : List UInt8 => l.length = 8 ∧ bigNum l = z.2), fun s h => ?_⟩
  unfold rWide at h ⊢
  by_cases h1 : s.1 ≠ 0
  · rw [if_pos h1] at h; exact absurd h h1
  · rw [if_neg h1] at h ⊢
    by_cases h2 : (rBytes 8 (rNumber s).2).2.1 ≠ 0
    · rw [if_pos h2] at h; exact absurd h h2
    · rw [if_neg h2]
      obtain ⟨e1, e2, e3⟩ := bytes_ok _ _ (by simpa using h2)
      obtain ⟨f1, f2⟩ := hn s e1
      refine ⟨f1, ?_⟩
      rw [e3]
      have hl : ((rNumber s).2.2.take 8).length = 8 := by rw [List.length_take]; omega
      have hx : ∃ l : List UInt8, l.length = 8 ∧ bigNum l = bigNum ((rNumber s).2.2.take 8) := ⟨_, hl, rfl⟩
      have hy := Classical.epsilon_spec hx
      show s.2 = (en _ ++ Classical.epsilon fun l : List UInt8 => l.length = 8 ∧ bigNum l = bigNum ((rNumber s).2.2.take 8)) ++ List.drop 8 _
      rw [bigNum_inj 8 _ _ hy.1 hl (by omega) hy.2, List.append_assoc, List.take_append_drop]
      exact f2

theorem opt_can {α : Type} {enc : α → List UInt8} {r : RS → α × RS} (h : CanBy enc r) (b : Bool) (z : α) (s : RS) (hs : (opt b r z s).2.1 = 0) :
    s.1 = 0 ∧ s.2 = (if b then enc (opt b r z s).1 else []) ++ (opt b r z s).2.2 := by
  cases b
  · exact ⟨hs, rfl⟩
  · exact h s hs

theorem rows_can : ∃ enc, CanBy enc rRows := by
  obtain ⟨en, hn⟩ := number_can
  have hloop : ∀ (k : Nat) (s : RS), (rRowsLoop k s).2.1 = 0 → s.1 = 0 ∧ s.2 = ((rRowsLoop k s).1.flatMap fun r => (encWord r.1.length ++ r.1) ++ en r.2) ++ (rRowsLoop k s).2.2 := by
    intro k
    induction k with
    | zero => intro s h; exact ⟨h, rfl⟩
    | succ k ih =>
      intro s h
      obtain ⟨a1, a2⟩ := ih _ h
      obtain ⟨b1, b2⟩ := hn _ a1
      obtain ⟨c1, c2⟩ := text_can 12 s b1
      refine ⟨c1, ?_⟩
      show s.2 = (((encWord (rText 12 s).1.length ++ (rText 12 s).1) ++ en (rNumber (rText 12 s).2).1) ++ _) ++ _
      rw [c2, b2, a2]
      simp only [List.append_assoc]
      rfl
  refine ⟨fun l => encWord l.length ++ l.flatMap fun r => (encWord r.1.length ++ r.1) ++ en r.2, fun s h => ?_⟩
  obtain ⟨a1, a2⟩ := hloop _ _ h
  obtain ⟨b1, b2⟩ := count_can 32 s a1
  refine ⟨b1, ?_⟩
  have hl : (rRows s).1.length = (rCount 32 s).1.toNat := rRowsLoop_len _ _
  show s.2 = (encWord (rRows s).1.length ++ _) ++ _
  rw [hl, List.append_assoc]
  show s.2 = encWord (rCount 32 s).1.toNat ++ _
  rw [b2]
  congr 1

theorem trade_can : ∃ enc, CanBy enc rTrade := by
  obtain ⟨en, hn⟩ := number_can
  refine ⟨fun t => en t.id ++ ((encWord t.buyer.length ++ t.buyer) ++ ((encWord t.seller.length ++ t.seller) ++ ((encWord t.isin.length ++ t.isin) ++ (en t.qty ++ en t.price)))), fun s h => ?_⟩
  have h1 : (rTrade1 (rTrade0 s)).1 = 0 := h
  have h2 : (rTrade0 s).2.1 = 0 ∧ rTrade1 (rTrade0 s) = (rTrade0 s).2 := by
    unfold rTrade1 at h1 ⊢
    by_cases h3 : (rTrade0 s).2.1 = 0
    · rw [if_pos h3] at h1 ⊢
      refine ⟨h3, ?_⟩
      unfold rFail at h1 ⊢
      rw [if_pos h3] at h1 ⊢
      exact Prod.ext (Eq.trans h1 h3.symm) rfl
    · rw [if_neg h3] at h1; exact absurd h1 h3
  have h4 : rTrade s = ((rTrade0 s).1, (rTrade0 s).2) := by
    unfold rTrade
    rw [if_pos h1, h2.2]
  rw [h4]
  obtain ⟨a1, a2⟩ := hn _ h2.1
  obtain ⟨b1, b2⟩ := hn _ a1
  obtain ⟨c1, c2⟩ := text_can 12 _ b1
  obtain ⟨d1, d2⟩ := text_can 12 _ c1
  obtain ⟨e1, e2⟩ := text_can 12 _ d1
  obtain ⟨f1, f2⟩ := hn _ e1
  refine ⟨f1, ?_⟩
  rw [f2, e2, d2, c2, b2, a2]
  simp only [List.append_assoc]
  rfl

theorem note_can : ∃ enc, CanBy enc rNote := by
  obtain ⟨en, hn⟩ := number_can
  obtain ⟨et, ht⟩ := trade_can
  obtain ⟨er, hr⟩ := rows_can
  obtain ⟨ew, hw⟩ := wide_can
  refine ⟨fun n => [UInt8.ofNat n.kind.toNat] ++ ((if (formOf n.kind).peer then [UInt8.ofNat n.peer.toNat] else []) ++ ((if (formOf n.kind).day then encWord n.day.toNat else []) ++
    ((if (formOf n.kind).trade then et n.trade else []) ++ ((if (formOf n.kind).name then encWord n.name.length ++ n.name else []) ++ ((if (formOf n.kind).amount then en n.amount else []) ++
    ((if (formOf n.kind).rows then er n.rows else []) ++ (if (formOf n.kind).cash then ew (n.hi, n.lo) else []))))))), fun s h => ?_⟩
  obtain ⟨a1, a2⟩ := opt_can hw _ (0, 0) _ h
  obtain ⟨b1, b2⟩ := opt_can hr _ [] _ a1
  obtain ⟨c1, c2⟩ := opt_can hn _ 0 _ b1
  obtain ⟨d1, d2⟩ := opt_can (text_can 12) _ [] _ c1
  obtain ⟨e1, e2⟩ := opt_can ht _ trZero _ d1
  obtain ⟨f1, f2⟩ := opt_can (count_can 9223372036854775807) _ 0 _ e1
  obtain ⟨g1, g2⟩ := opt_can peer_can _ 0 _ f1
  have hk : isKind (rKind s).1 = true ∧ (rKind s).2.1 = 0 := by
    by_cases hk : isKind (rKind s).1 = true
    · rw [if_pos hk] at g1
      exact ⟨hk, g1⟩
    · rw [if_neg hk] at g1
      unfold rFail at g1
      by_cases h3 : (rKind s).2.1 = 0
      · rw [if_pos h3] at g1; simp at g1
      · rw [if_neg h3] at g1; exact absurd g1 h3
  have e0 : (if isKind (rKind s).1 = true then (rKind s).2 else rFail 3 (rKind s).2) = (rKind s).2 := if_pos hk.1
  have hN : rNote s = rNote s := rfl
  conv at hN => rhs; unfold rNote
  simp only [e0] at hN a2 b2 c2 d2 e2 f2 g2
  obtain ⟨k1, k2⟩ := kind_can s hk.2
  refine ⟨k1, ?_⟩
  rw [hN, k2, g2, f2, e2, d2, c2, b2, a2]
  simp only [List.append_assoc]
  rfl
end Go.Proofs.YtpffaenjphnfiaaDoor
