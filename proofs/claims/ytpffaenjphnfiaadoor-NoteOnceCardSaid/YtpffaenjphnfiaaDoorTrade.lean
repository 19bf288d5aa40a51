/- Trades: what is wrong with one. -/
import Derived.Test.YtpffaenjphnfiaaDoorDigit
namespace Go.Proofs.YtpffaenjphnfiaaDoor
open Go.RowKit
attribute [local go_sem] str_size str_toList str_get

structure Trd where
  id : Int
  buyer : List UInt8
  seller : List UInt8
  isin : List UInt8
  qty : Int
  price : Int
abbrev trC (t : Trd) : List Value := [.int .i64 t.id, str t.buyer, str t.seller, str t.isin, .int .i64 t.qty, .int .i64 t.price]

def namesErr (t : Trd) : Int := if memberErr t.buyer ≠ 0 then memberErr t.buyer else if memberErr t.seller ≠ 0 then memberErr t.seller else isinErr t.isin

theorem cells_new {w w1 : World} {cs : Array Value} {T : TypeId} (hu : Upd none_ (w.alloc (.cells cs T)) w1) (i : Nat) : w1.cell? ⟨w.heap.size, i, none⟩ = cs[i]? := by
  have h := (Blk.new w T cs).upd hu (fun h => h)
  exact h.cell i

set_option maxRecDepth 100000 in
set_option maxHeartbeats 800000 in
theorem names_any (id : Int) (b s i : List UInt8) (q p : Int) (w : World) :
    Calls Tryd.prog 44 #[.agg #[.int .i64 id, str b, str s, str i, .int .i64 q, .int .i64 p]] w fun e w' => e = .returned (.int .i64 (namesErr ⟨id, b, s, i, q, p⟩)) ∧ Upd none_ w w' := by
  go_enter Tryd.func44, Tryd.ntmps44
  go_wp2
  refine wp_loop_rounds 3 ?_
  rw [rounds_succ]
  go_wp2_with fail
  have hU0 : Upd none_ w ((w.alloc (.cells #[.int .i64 id, str b, str s, str i, .int .i64 q, .int .i64 p] 24)).alloc (.cells #[str b, str s] 9)) := ((Upd.refl none_ w).alloc _).alloc _
  have hbT := (Blk.new w 24 #[.int .i64 id, str b, str s, str i, .int .i64 q, .int .i64 p]).alloc (.cells #[str b, str s] 9)
  have hbS := Blk.new (w.alloc (.cells #[.int .i64 id, str b, str s, str i, .int .i64 q, .int .i64 p] 24)) 9 #[str b, str s]
  rw [World.size_alloc] at hbS
  have hN : namesErr ⟨id, b, s, i, q, p⟩ = if memberErr b ≠ 0 then memberErr b else if memberErr s ≠ 0 then memberErr s else isinErr i := rfl
  have HN := Lib.hid hN; clear hN
  refine (member_any b _).mono ?_
  rintro e w1 ⟨rfl, hu1⟩
  have hbS1 := hbS.upd hu1 (fun h => h)
  have hbT1 := hbT.upd hu1 (fun h => h)
  have s1 := hbS1.cell 1
  simp at s1
  by_cases h1 : memberErr b = 0
  · have h1b : (memberErr b != 0) = false := by simp [h1]
    have HN2 : Hid (namesErr ⟨id, b, s, i, q, p⟩ = if memberErr s ≠ 0 then memberErr s else isinErr i) := by rw [Hid, HN.out, if_neg (by simp [h1])]
    clear h1 HN
    go_wp2_with fail
    rw [rounds_succ]
    go_wp2_with fail
    refine (member_any s _).mono ?_
    rintro e w2 ⟨rfl, hu2⟩
    have hbT2 := hbT1.upd hu2 (fun h => h)
    have t3 := hbT2.cell 3
    simp at t3
    by_cases h2 : memberErr s = 0
    · have h2b : (memberErr s != 0) = false := by simp [h2]
      have HN3 : Hid (namesErr ⟨id, b, s, i, q, p⟩ = isinErr i) := by rw [Hid, HN2.out, if_neg (by simp [h2])]
      clear h2 HN2
      go_wp2_with fail
      rw [rounds_succ]
      go_wp2_with fail
      refine (isin_any i _).mono ?_
      rintro e w3 ⟨rfl, hu3⟩
      go_wp2
      go_ret
      exact ⟨by rw [HN3.out]; rfl, ((hU0.trans hu1).trans hu2).trans hu3⟩
    · have h2b : (memberErr s != 0) = true := by simp [h2]
      have HN3 : Hid (namesErr ⟨id, b, s, i, q, p⟩ = memberErr s) := by rw [Hid, HN2.out, if_pos h2]
      clear h2 HN2
      go_wp2
      go_ret
      exact ⟨by rw [HN3.out]; rfl, (hU0.trans hu1).trans hu2⟩
  · have h1b : (memberErr b != 0) = true := by simp [h1]
    have HN2 : Hid (namesErr ⟨id, b, s, i, q, p⟩ = memberErr b) := by rw [Hid, HN.out, if_pos h1]
    clear h1 HN
    go_wp2
    go_ret
    exact ⟨by rw [HN2.out]; rfl, hU0.trans hu1⟩

def tradeErr (t : Trd) : Int :=
  if t.id < 1 then 1 else if namesErr t ≠ 0 then namesErr t else if t.buyer = t.seller then 6 else
  if t.qty < 1 ∨ 2147483648 ≤ t.qty ∨ t.price < 0 ∨ 2147483648 ≤ t.price then 2 else 0

set_option maxRecDepth 100000 in
set_option maxHeartbeats 800000 in
theorem tcheck_any (id : Int) (b s i : List UInt8) (q p : Int) (w : World) :
    Calls Tryd.prog 27 #[.agg #[.int .i64 id, str b, str s, str i, .int .i64 q, .int .i64 p]] w fun e w' => e = .returned (.int .i64 (tradeErr ⟨id, b, s, i, q, p⟩)) ∧ Upd none_ w w' := by
  have hU0 : Upd none_ w (w.alloc (.cells #[.int .i64 id, str b, str s, str i, .int .i64 q, .int .i64 p] 24)) := (Upd.refl none_ w).alloc _
  have hbT := Blk.new w 24 #[.int .i64 id, str b, str s, str i, .int .i64 q, .int .i64 p]
  have hN : tradeErr ⟨id, b, s, i, q, p⟩ = if id < 1 then 1 else if namesErr ⟨id, b, s, i, q, p⟩ ≠ 0 then namesErr ⟨id, b, s, i, q, p⟩ else if b = s then 6 else if q < 1 ∨ 2147483648 ≤ q ∨ p < 0 ∨ 2147483648 ≤ p then 2 else 0 := rfl
  by_cases hid : id < 1
  · rw [if_pos hid] at hN
    have HN := Lib.hid hN; clear hN
    go_enter Tryd.func27, Tryd.ntmps27
    go_wp2
    go_ret
    exact ⟨by rw [HN.out]; rfl, hU0⟩
  · rw [if_neg hid] at hN
    have HN := Lib.hid hN; clear hN
    go_enter Tryd.func27, Tryd.ntmps27
    go_wp2_with fail
    refine (names_any id b s i q p _).mono ?_
    rintro e w1 ⟨rfl, hu1⟩
    have hbT1 := hbT.upd hu1 (fun h => h)
    have t1 := hbT1.cell 1
    have t2 := hbT1.cell 2
    have t4 := hbT1.cell 4
    have t5 := hbT1.cell 5
    simp at t1 t2 t4 t5
    obtain ⟨m, hm⟩ : ∃ m, namesErr ⟨id, b, s, i, q, p⟩ = m := ⟨_, rfl⟩
    rw [hm] at HN ⊢
    by_cases h1 : m = 0
    · have h1b : (m != 0) = false := by simp [h1]
      have HN2 : Hid (tradeErr ⟨id, b, s, i, q, p⟩ = if b = s then 6 else if q < 1 ∨ 2147483648 ≤ q ∨ p < 0 ∨ 2147483648 ≤ p then 2 else 0) := by rw [Hid, HN.out, if_neg (by simp [h1])]
      clear h1 HN hm
      by_cases hbs : b = s
      · have hbb : (b == s) = true := by simp [hbs]
        have HN3 : Hid (tradeErr ⟨id, b, s, i, q, p⟩ = 6) := by rw [Hid, HN2.out, if_pos hbs]
        clear hbs HN2
        go_wp2
        go_ret
        exact ⟨by rw [HN3.out]; rfl, hU0.trans hu1⟩
      · have hbb : (b == s) = false := by simp [hbs]
        have HN3 : Hid (tradeErr ⟨id, b, s, i, q, p⟩ = if q < 1 ∨ 2147483648 ≤ q ∨ p < 0 ∨ 2147483648 ≤ p then 2 else 0) := by rw [Hid, HN2.out, if_neg hbs]
        clear hbs HN2
        by_cases g1 : q < 1
        · go_wp2
          go_ret
          exact ⟨by rw [HN3.out, if_pos (.inl g1)]; rfl, hU0.trans hu1⟩
        by_cases g2 : 2147483648 ≤ q
        · go_wp2
          go_ret
          exact ⟨by rw [HN3.out, if_pos (.inr (.inl g2))]; rfl, hU0.trans hu1⟩
        by_cases g3 : p < 0
        · go_wp2
          go_ret
          exact ⟨by rw [HN3.out, if_pos (.inr (.inr (.inl g3)))]; rfl, hU0.trans hu1⟩
        by_cases g4 : 2147483648 ≤ p
        · go_wp2
          go_ret
          exact ⟨by rw [HN3.out, if_pos (.inr (.inr (.inr g4)))]; rfl, hU0.trans hu1⟩
        · go_wp2
          go_ret
          exact ⟨by rw [HN3.out, if_neg (by omega)]; rfl, hU0.trans hu1⟩
    · have h1b : (m != 0) = true := by simp [h1]
      have HN2 : Hid (tradeErr ⟨id, b, s, i, q, p⟩ = m) := by rw [Hid, HN.out, if_pos h1]
      clear h1 HN hm
      go_wp2
      go_ret
      exact ⟨by rw [HN2.out]; rfl, hU0.trans hu1⟩
end Go.Proofs.YtpffaenjphnfiaaDoor
