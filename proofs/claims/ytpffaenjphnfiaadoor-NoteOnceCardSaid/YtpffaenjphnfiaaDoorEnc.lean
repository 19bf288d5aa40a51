/- Two notes' bytes. -/
import Derived.Test.YtpffaenjphnfiaaDoorWrt
import Derived.Test.YtpffaenjphnfiaaDoorDec
namespace Go.Proofs.YtpffaenjphnfiaaDoor
open Go.RowKit
attribute [local go_sem] str_size str_toList str_get

abbrev ntK (k p d : Int) : Array Value := #[.int .i64 k, .int .i64 p, .int .i64 d, .int .i64 0, .string ⟨#[]⟩, .string ⟨#[]⟩, .string ⟨#[]⟩, .int .i64 0, .int .i64 0, .string ⟨#[]⟩, .int .i64 0, .slice none 0 0, .int .i64 0, .int .u64 0]
theorem check_k (k p d : Int) (e : Int) (he : checkErr ⟨k, p, d, trZero, [], 0, [], 0, 0⟩ = e) (w : World) :
    Calls Tryd.prog 11 #[.agg (ntK k p d)] w fun r w' => r = .returned (.int .i64 e) ∧ Upd none_ w w' := by
  have h := check_any ⟨k, p, d, trZero, [], 0, [], 0, 0⟩ none 0 w none_ Rd.nil_ (by simp)
  rw [he] at h
  exact h
theorem chk_cut : checkErr ⟨2, 0, 0, trZero, [], 0, [], 0, 0⟩ = 0 := by decide
theorem chk_cut1 : checkErr ⟨2, 0, 1, trZero, [], 0, [], 0, 0⟩ = 1 := by decide
theorem chk_stop1 : checkErr ⟨8, 1, 0, trZero, [], 0, [], 0, 0⟩ = 0 := by decide

set_option maxRecDepth 100000 in
set_option maxHeartbeats 2000000 in
theorem enc_cut (w : World) : Calls Tryd.prog 12 #[.agg (ntK 2 0 0)] w fun e w' =>
    ∃ A' c', e = .returned (.tuple #[.slice A' 1 c', .int .i64 0]) ∧ Bs w' (fun k => w.heap.size ≤ k) A' [2] ∧ Upd none_ w w' := by
  have hck := check_k 2 0 0 0 chk_cut
  have hfo := forms_any 2
  rw [show formOf 2 = ⟨false, false, false, false, false, false, false⟩ from rfl, show isKind 2 = true from rfl] at hfo
  have HCK := Lib.hid hck
  have HFO := Lib.hid hfo
  clear hck hfo
  have hN := Blk.new w 30 (ntK 2 0 0)
  have hU : Upd none_ w (w.alloc (.cells (ntK 2 0 0) 30)) := (Upd.refl none_ w).alloc _
  go_enter Tryd.func12, Tryd.ntmps12
  go_wp2_with fail
  refine (HCK.out _).mono ?_
  rintro e w1 ⟨rfl, hu1⟩
  replace hN := hN.upd hu1 (fun h => h)
  replace hU := hU.trans hu1
  have c0 := hN.cell 0
  simp at c0
  go_wp2_with fail
  refine (HFO.out _).mono ?_
  rintro e w2 ⟨rfl, hu2⟩
  clear c0
  replace hN := (hN.upd hu2 (fun h => h)).alloc (.cells (fmA ⟨false, false, false, false, false, false, false⟩) 56)
  replace hU := (hU.trans hu2).alloc (.cells (fmA ⟨false, false, false, false, false, false, false⟩) 56)
  have hF := Blk.new w2 56 (fmA ⟨false, false, false, false, false, false, false⟩)
  go_upto_region 5 with fail
  refine wp_abs (fun w3 hw3 => ?_)
  rw [← hw3] at hN hF hU
  clear hw3 hu1 hu2
  replace hN := hN.alloc (.cells #[.int .i64 0, .slice none 0 0] 72)
  have c0 : (w3.alloc (.cells #[.int .i64 0, .slice none 0 0] 72)).cell? ⟨w.heap.size, 0, none⟩ = some (.int .i64 2) := hN.cell 0
  have hW : WrAt (w3.alloc (.cells #[.int .i64 0, .slice none 0 0] 72)) (w3.heap.size + 1) w3.heap.size (0, []) :=
    ⟨_, Blk.new _ _ _, World.ownsRow_nil _ _ _ _, by simp, by omega⟩
  have hlt3 := hF.lt
  replace hF := hF.alloc (.cells #[.int .i64 0, .slice none 0 0] 72)
  replace hU := hU.alloc (.cells #[.int .i64 0, .slice none 0 0] 72)
  have hby := WByte_any w3.heap.size (w3.heap.size + 1) (0, []) 2 _ hW (by simp)
  rw [show wPut [2] (0, []) = (0, [2]) from rfl, show (((2 : UInt8).toNat : Nat) : Int) = 2 from rfl] at hby
  have HBY := Lib.hid hby
  clear hby hW
  go_wp2_with fail
  refine HBY.out.mono ?_
  rintro e w4 ⟨rfl, hw, hu4⟩
  clear c0 HBY
  have hlN := hN.lt
  simp at hlN
  replace hF := hF.upd hu4 (by simp; omega)
  have hU4 := hU.then_ hu4 (fun k hk => .inr (by have := hU.size; simp at this; omega))
  have f0 := hF.cell 0
  have f1 := hF.cell 1
  have f2 := hF.cell 2
  have f3 := hF.cell 3
  have f4 := hF.cell 4
  have f5 := hF.cell 5
  have f6 := hF.cell 6
  simp at f0 f1 f2 f3 f4 f5 f6
  have HDN := Lib.hid (WDone_any _ _ _ _ hw)
  clear hw
  go_wp2_with fail
  refine HDN.out.mono ?_
  rintro e w5 ⟨A', c', rfl, _, hb5, hu5⟩
  have hU5 := hU4.trans hu5
  have hb6 : Bs w5 (fun k => w.heap.size ≤ k) A' [2] := Rd.more hb5 (fun k h => Nat.le_trans hU4.size h)
  clear f0 f1 f2 f3 f4 f5 f6
  go_wp2
  go_ret2
  exact ⟨A', c', rfl, hb6, hU5⟩

set_option maxRecDepth 100000 in
set_option maxHeartbeats 2000000 in
theorem enc_stop (w : World) : Calls Tryd.prog 12 #[.agg (ntK 8 1 0)] w fun e w' =>
    ∃ A' c', e = .returned (.tuple #[.slice A' 2 c', .int .i64 0]) ∧ Bs w' (fun k => w.heap.size ≤ k) A' [8, 1] ∧ Upd none_ w w' := by
  have hck := check_k 8 1 0 0 chk_stop1
  have hfo := forms_any 8
  rw [show formOf 8 = ⟨true, false, false, false, false, false, false⟩ from rfl, show isKind 8 = true from rfl] at hfo
  have HCK := Lib.hid hck
  have HFO := Lib.hid hfo
  clear hck hfo
  have hN := Blk.new w 30 (ntK 8 1 0)
  have hU : Upd none_ w (w.alloc (.cells (ntK 8 1 0) 30)) := (Upd.refl none_ w).alloc _
  go_enter Tryd.func12, Tryd.ntmps12
  go_wp2_with fail
  refine (HCK.out _).mono ?_
  rintro e w1 ⟨rfl, hu1⟩
  replace hN := hN.upd hu1 (fun h => h)
  replace hU := hU.trans hu1
  have c0 := hN.cell 0
  simp at c0
  go_wp2_with fail
  refine (HFO.out _).mono ?_
  rintro e w2 ⟨rfl, hu2⟩
  clear c0
  replace hN := (hN.upd hu2 (fun h => h)).alloc (.cells (fmA ⟨true, false, false, false, false, false, false⟩) 56)
  replace hU := (hU.trans hu2).alloc (.cells (fmA ⟨true, false, false, false, false, false, false⟩) 56)
  have hF := Blk.new w2 56 (fmA ⟨true, false, false, false, false, false, false⟩)
  go_upto_region 5 with fail
  refine wp_abs (fun w3 hw3 => ?_)
  rw [← hw3] at hN hF hU
  clear hw3 hu1 hu2
  have hltN3 := hN.lt
  replace hN := hN.alloc (.cells #[.int .i64 0, .slice none 0 0] 72)
  have c0 : (w3.alloc (.cells #[.int .i64 0, .slice none 0 0] 72)).cell? ⟨w.heap.size, 0, none⟩ = some (.int .i64 8) := hN.cell 0
  have hW : WrAt (w3.alloc (.cells #[.int .i64 0, .slice none 0 0] 72)) (w3.heap.size + 1) w3.heap.size (0, []) :=
    ⟨_, Blk.new _ _ _, World.ownsRow_nil _ _ _ _, by simp, by omega⟩
  have hlt3 := hF.lt
  replace hF := hF.alloc (.cells #[.int .i64 0, .slice none 0 0] 72)
  replace hU := hU.alloc (.cells #[.int .i64 0, .slice none 0 0] 72)
  have hby := WByte_any w3.heap.size (w3.heap.size + 1) (0, []) 8 _ hW (by simp)
  rw [show wPut [8] (0, []) = (0, [8]) from rfl, show (((8 : UInt8).toNat : Nat) : Int) = 8 from rfl] at hby
  have HBY := Lib.hid hby
  clear hby hW
  go_wp2_with fail
  refine HBY.out.mono ?_
  rintro e w4 ⟨rfl, hw, hu4⟩
  clear c0 HBY
  have hlN := hN.lt
  simp at hlN
  replace hF := hF.upd hu4 (by simp; omega)
  have hU4 := hU.then_ hu4 (fun k hk => .inr (by have := hU.size; simp at this; omega))
  have f0 := hF.cell 0
  have f1 := hF.cell 1
  have f2 := hF.cell 2
  have f3 := hF.cell 3
  have f4 := hF.cell 4
  have f5 := hF.cell 5
  have f6 := hF.cell 6
  simp at f0 f1 f2 f3 f4 f5 f6
  have hN4 := hN.upd hu4 (by simp; omega)
  have d1 := hN4.cell 1
  simp at d1
  have hsz4 := hU4.size
  have hw4 := hu4.size
  simp at hw4
  have hby := WByte_any w3.heap.size (w3.heap.size + 1) (0, [8]) 1 _ hw hw4
  rw [show wPut [1] (0, [8]) = (0, [8, 1]) from rfl, show (((1 : UInt8).toNat : Nat) : Int) = 1 from rfl] at hby
  have HBY := Lib.hid hby
  clear hby hw
  go_wp2_with fail
  refine HBY.out.mono ?_
  rintro e w4b ⟨rfl, hw, hu4b⟩
  clear HBY d1 f0 f1 f2 f3 f4 f5 f6
  replace hF := hF.upd hu4b (by simp; omega)
  have hlN2 : w.heap.size ≤ w3.heap.size := by omega
  have hU4b := hU4.then_ hu4b (fun k hk => .inr (by omega))
  have f0 := hF.cell 0
  have f1 := hF.cell 1
  have f2 := hF.cell 2
  have f3 := hF.cell 3
  have f4 := hF.cell 4
  have f5 := hF.cell 5
  have f6 := hF.cell 6
  simp at f0 f1 f2 f3 f4 f5 f6
  have HDN := Lib.hid (WDone_any _ _ _ _ hw)
  clear hw
  go_wp2_with fail
  refine HDN.out.mono ?_
  rintro e w5 ⟨A', c', rfl, _, hb5, hu5⟩
  have hU5 := hU4b.trans hu5
  have hb6 : Bs w5 (fun k => w.heap.size ≤ k) A' [8, 1] := Rd.more hb5 (fun k h => Nat.le_trans hU4b.size h)
  clear f0 f1 f2 f3 f4 f5 f6
  go_wp2
  go_ret2
  exact ⟨A', c', rfl, hb6, hU5⟩
end Go.Proofs.YtpffaenjphnfiaaDoor
