/- What a note has. -/
import Derived.Test.YtpffaenjphnfiaaDoorNoteA
namespace Go.Proofs.YtpffaenjphnfiaaDoor
open Go.RowKit
attribute [local go_sem] str_size str_toList str_get

structure Nt where
  kind : Int
  peer : Int
  day : Int
  trade : Trd
  name : List UInt8
  amount : Int
  rows : List (List UInt8 × Int)
  hi : Int
  lo : Nat
/-- A note's cells; its rows lie at A. -/
abbrev ntA (n : Nt) (A : Option Addr) (c : Nat) : Array Value := #[.int .i64 n.kind, .int .i64 n.peer, .int .i64 n.day, .int .i64 n.trade.id, str n.trade.buyer, str n.trade.seller, str n.trade.isin, .int .i64 n.trade.qty, .int .i64 n.trade.price,
  str n.name, .int .i64 n.amount, .slice A n.rows.length c, .int .i64 n.hi, .int .u64 n.lo]

def trNe (t : Trd) : Bool := !(decide (t.id = 0) && (decide (t.buyer = []) && (decide (t.seller = []) && (decide (t.isin = []) && (decide (t.qty = 0) && decide (t.price = 0))))))
set_option maxRecDepth 100000 in
theorem tr_ne (t : Trd) (w : World) : (binOp .neq 24 (.agg (trA t)) (.agg #[.int .i64 0, .string ⟨#[]⟩, .string ⟨#[]⟩, .string ⟨#[]⟩, .int .i64 0, .int .i64 0])).run Tryd.prog w = .ok (.bool (trNe t)) w := by
  obtain ⟨id, b, s, i, q, p⟩ := t
  go_simp
  by_cases h1 : id = 0
  · by_cases h2 : b = []
    · by_cases h3 : s = []
      · by_cases h4 : i = []
        · by_cases h5 : q = 0
          · by_cases h6 : p = 0 <;> simp [trNe, h1, h2, h3, h4, h5, h6]
          · simp [trNe, h1, h2, h3, h4, h5]
        · simp [trNe, h1, h2, h3, h4]
      · simp [trNe, h1, h2, h3]
    · simp [trNe, h1, h2]
  · simp [trNe, h1]
def wdNe (hi lo : Int) : Bool := !(decide (hi = 0) && decide (lo = 0))
set_option maxRecDepth 100000 in
theorem wd_ne (hi lo : Int) (w : World) : (binOp .neq 28 (.agg #[.int .i64 hi, .int .u64 lo]) (.agg #[.int .i64 0, .int .u64 0])).run Tryd.prog w = .ok (.bool (wdNe hi lo)) w := by
  go_simp
  by_cases h1 : hi = 0
  · by_cases h2 : lo = 0 <;> simp [wdNe, h1, h2]
  · simp [wdNe, h1]

def hasOf (pe d : Int) (t : Trd) (na : List UInt8) (am : Int) (m : Nat) (hi lo : Int) : Fm := ⟨pe != 0, d != 0, trNe t, !na.isEmpty, am != 0, decide (0 < m), wdNe hi lo⟩

set_option maxRecDepth 100000 in
set_option maxHeartbeats 2000000 in
theorem of_any (k pe d id : Int) (b s i : List UInt8) (q p : Int) (na : List UInt8) (am : Int) (A : Option Addr) (m c : Nat) (hi lo : Int) (w : World) :
    Calls Tryd.prog 26 #[.agg #[.int .i64 k, .int .i64 pe, .int .i64 d, .int .i64 id, str b, str s, str i, .int .i64 q, .int .i64 p, str na, .int .i64 am, .slice A m c, .int .i64 hi, .int .u64 lo]] w
      fun e w' => e = .returned (.agg (fmA (hasOf pe d ⟨id, b, s, i, q, p⟩ na am m hi lo))) ∧ Upd none_ w w' := by
  have hN := (Blk.new w 30 #[.int .i64 k, .int .i64 pe, .int .i64 d, .int .i64 id, str b, str s, str i, .int .i64 q, .int .i64 p, str na, .int .i64 am, .slice A m c, .int .i64 hi, .int .u64 lo]).alloc (.cells (fmA ⟨false, false, false, false, false, false, false⟩) 56)
  have hF := Blk.new (w.alloc (.cells #[.int .i64 k, .int .i64 pe, .int .i64 d, .int .i64 id, str b, str s, str i, .int .i64 q, .int .i64 p, str na, .int .i64 am, .slice A m c, .int .i64 hi, .int .u64 lo] 30)) 56 (fmA ⟨false, false, false, false, false, false, false⟩)
  have hU : Upd none_ w ((w.alloc (.cells #[.int .i64 k, .int .i64 pe, .int .i64 d, .int .i64 id, str b, str s, str i, .int .i64 q, .int .i64 p, str na, .int .i64 am, .slice A m c, .int .i64 hi, .int .u64 lo] 30)).alloc (.cells (fmA ⟨false, false, false, false, false, false, false⟩) 56)) := ((Upd.refl none_ w).alloc _).alloc _
  rw [World.size_alloc] at hF
  go_enter Tryd.func26, Tryd.ntmps26
  go_wp2
  refine wp_abs (fun w1 hw1 => ?_)
  rw [← hw1] at hN hF hU
  clear hw1
  have c1 := hN.cell 1
  have c2 := hN.cell 2
  have c3 := hN.cell 3
  have c4 := hN.cell 4
  have c5 := hN.cell 5
  have c6 := hN.cell 6
  have c7 := hN.cell 7
  have c8 := hN.cell 8
  have c9 := hN.cell 9
  have c10 := hN.cell 10
  have c11 := hN.cell 11
  have c12 := hN.cell 12
  have c13 := hN.cell 13
  simp at c1 c2 c3 c4 c5 c6 c7 c8 c9 c10 c11 c12 c13
  have hcmp := fun W => tr_ne ⟨id, b, s, i, q, p⟩ W
  have hcmp2 := fun W => wd_ne hi lo W
  refine wp_region_still_tail 25 (by kernel_rfl) (by kernel_rfl) ?_
  change wpStill _ _ w1.drew _ _ _
  simp only [List.take_succ_cons, List.take_zero, List.drop_succ_cons, List.drop_zero]
  repeat still_step
  refine wpStill_nil ?_
  clear c1 c2 c3 c4 c5 c6 c7 c8 c9 c10 c11 c12 c13 hcmp hcmp2
  have f0 := hF.cell 0
  have z0 := hF.frozen 0
  have f1 := hF.cell 1
  have z1 := hF.frozen 1
  have f2 := hF.cell 2
  have z2 := hF.frozen 2
  have f3 := hF.cell 3
  have z3 := hF.frozen 3
  have f4 := hF.cell 4
  have z4 := hF.frozen 4
  have f5 := hF.cell 5
  have z5 := hF.frozen 5
  have f6 := hF.cell 6
  have z6 := hF.frozen 6
  simp at f0 f1 f2 f3 f4 f5 f6
  go_wp2
  refine bodyPost_ret (v := .agg (fmA (hasOf pe d ⟨id, b, s, i, q, p⟩ na am m hi lo))) (by simp [results, Tryd.results26, go_sem, f0, f1, f2, f3, f4, f5, f6, hasOf]) rfl ⟨rfl, ?_⟩
  have hge : w.heap.size ≤ w.heap.size + 1 := by omega
  repeat (first | with_reducible exact hU | with_reducible refine Upd.drew ?_ | with_reducible refine Upd.new1 ?_ hge _)
end Go.Proofs.YtpffaenjphnfiaaDoor
