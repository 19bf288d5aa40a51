/- What is wrong with a note. -/
import Derived.Deep.CutRange
import Derived.BigQuiet
import Derived.Test.YtpffaenjphnfiaaDoorNoteC
namespace Go.Proofs.YtpffaenjphnfiaaDoor
open Go.RowKit
attribute [local go_sem] str_size str_toList str_get

def nameErr (k : Int) (s : List UInt8) : Int := if k = 3 then isinErr s else memberErr s
def hasNt (n : Nt) : Fm := hasOf n.peer n.day n.trade n.name n.amount n.rows.length n.hi n.lo
theorem name_any2 (k : Int) (l : List UInt8) (w : World) : Calls Tryd.prog 28 #[.int .i64 k, .string ⟨l.toArray⟩] w fun e w' => e = .returned (.int .i64 (nameErr k l)) ∧ Upd none_ w w' := name_any k l w
def chk7 (n : Nt) : Int := if (formOf n.kind).rows = true then rowsErr n.kind n.rows else 0
def chk6 (n : Nt) : Int := if (formOf n.kind).amount = true ∧ amountOk n.kind n.amount = false then 2 else chk7 n
def chk5 (n : Nt) : Int := if (formOf n.kind).name = true ∧ nameErr n.kind n.name ≠ 0 then nameErr n.kind n.name else chk6 n
def chk4 (n : Nt) : Int := if (formOf n.kind).trade = true ∧ tradeErr n.trade ≠ 0 then tradeErr n.trade else chk5 n
def chk3 (n : Nt) : Int := if (formOf n.kind).day = true ∧ (n.day < 1 ∨ 500 < n.day) then 2 else chk4 n
def chk2 (n : Nt) : Int := if (formOf n.kind).peer = true ∧ (n.peer < 0 ∨ 3 ≤ n.peer) then 5 else chk3 n
def checkErr (n : Nt) : Int := if isKind n.kind = false ∨ moreOf (formOf n.kind) (hasNt n) = true then 1 else chk2 n

set_option maxRecDepth 100000 in
set_option maxHeartbeats 4000000 in
theorem chk_no (n : Nt) (A : Option Addr) (c : Nat) (w : World) (hk : isKind n.kind = false) :
    Calls Tryd.prog 11 #[.agg (ntA n A c)] w fun e w' => e = .returned (.int .i64 (checkErr n)) ∧ Upd none_ w w' := by
  have hx : checkErr n = 1 := by simp [checkErr, hk]
  rw [hx]
  have hf := forms_any n.kind
  rw [hk] at hf
  have HF := Lib.hid hf
  clear hf hk hx
  go_enter Tryd.func11, Tryd.ntmps11
  go_wp2_with fail
  refine (HF.out _).mono ?_
  rintro e w1 ⟨rfl, hu⟩
  go_wp2_with fail
  go_quiet (fail)
  go_wp2
  go_ret
  exact ⟨rfl, ((((Upd.refl none_ w).alloc _).trans hu).alloc _).drewN _⟩

theorem hu_drew {w w' : World} (h : Upd none_ w.drew w') : Upd none_ w w' := (Upd.refl none_ w).drew.trans h
set_option maxRecDepth 100000 in
set_option maxHeartbeats 4000000 in
theorem chk_trade (n : Nt) (A : Option Addr) (c : Nat) (w : World) (I : Nat → Prop) (hr : Rws w I A n.rows) (_hl : n.rows.length ≤ 1048576) (hk : isKind n.kind = true) (hf : formOf n.kind = ⟨false, false, true, false, false, false, false⟩) :
    Calls Tryd.prog 11 #[.agg (ntA n A c)] w fun e w' => e = .returned (.int .i64 (checkErr n)) ∧ Upd none_ w w' := by
  have hforms := forms_any n.kind
  have hof : ∀ w, Calls Tryd.prog 26 #[.agg (ntA n A c)] w fun e w' => e = .returned (.agg (fmA (hasNt n))) ∧ Upd none_ w w' := fun w => of_any n.kind n.peer n.day n.trade.id n.trade.buyer n.trade.seller n.trade.isin n.trade.qty n.trade.price n.name n.amount A n.rows.length c n.hi n.lo w
  obtain ⟨b, hb⟩ : ∃ b, moreOf (formOf n.kind) (hasNt n) = b := ⟨_, rfl⟩
  have hmore := more_any (formOf n.kind) (hasNt n)
  rw [hk, hf] at hforms
  rw [hb, hf] at hmore
  have HFo := Lib.hid hforms
  have HMo := Lib.hid hmore
  have HOf := Lib.hid hof
  have HK := Lib.hid hk
  have HB := Lib.hid hb
  have HFm := Lib.hid hf
  clear hforms hmore hof hk hb hf
  go_enter Tryd.func11, Tryd.ntmps11
  go_wp2_with fail
  refine (HFo.out _).mono ?_
  rintro e w1 ⟨rfl, hu⟩
  have hU : Upd none_ w (w1.alloc (.cells (fmA ⟨false, false, true, false, false, false, false⟩) 56)) := (((Upd.refl none_ w).alloc _).trans hu).alloc _
  have hN : Blk (w1.alloc (.cells (fmA ⟨false, false, true, false, false, false, false⟩) 56)) w.heap.size 30 (ntA n A c) := ((Blk.new w 30 (ntA n A c)).upd hu (by intro h; exact h)).alloc _
  have hF : Blk (w1.alloc (.cells (fmA ⟨false, false, true, false, false, false, false⟩) 56)) w1.heap.size 56 (fmA ⟨false, false, true, false, false, false, false⟩) := Blk.new w1 56 (fmA ⟨false, false, true, false, false, false, false⟩)
  have hr1 := Rd.upd hr hU (fun _ h => h.elim)
  go_upto_region 2 with fail
  go_cut [13] from 14 to 21 (fun s wx => s = .bool b ∧ Upd none_ (w1.alloc (.cells (fmA ⟨false, false, true, false, false, false, false⟩) 56)) wx)
  case first =>
    generalize hW : w1.alloc (.cells (fmA ⟨false, false, true, false, false, false, false⟩) 56) = W at *
    have f0 := hF.cell 0
    have f1 := hF.cell 1
    have f2 := hF.cell 2
    have f3 := hF.cell 3
    have f4 := hF.cell 4
    have f5 := hF.cell 5
    have f6 := hF.cell 6
    have c0 := hN.cell 0
    have c1 := hN.cell 1
    have c2 := hN.cell 2
    have c3 := hN.cell 3
    have c4 := hN.cell 4
    have c5 := hN.cell 5
    have c6 := hN.cell 6
    have c7 := hN.cell 7
    have c8 := hN.cell 8
    have c9 := hN.cell 9
    have c10 := hN.cell 10
    have c11 := hN.cell 11
    have c12 := hN.cell 12
    have c13 := hN.cell 13
    simp at f0 f1 f2 f3 f4 f5 f6 c0 c1 c2 c3 c4 c5 c6 c7 c8 c9 c10 c11 c12 c13
    go_region_with (first | (go_at_call 26; refine (HOf.out _).mono ?_; rintro e w2 ⟨rfl, hz⟩; have hF2 := hF.upd (hu_drew hz) (by intro h; exact h); have g0 := hF2.cell 0; have g1 := hF2.cell 1; have g2 := hF2.cell 2; have g3 := hF2.cell 3; have g4 := hF2.cell 4; have g5 := hF2.cell 5; have g6 := hF2.cell 6; simp at g0 g1 g2 g3 g4 g5 g6) | (go_at_call 25; refine (HMo.out _).mono ?_; rintro e w3 ⟨rfl, hz3⟩))
    all_goals (go_wp2_with fail; go_meet)
    all_goals exact ⟨rfl, (hu_drew hz).trans hz3⟩
  case rest =>
  obtain ⟨rfl, hu2⟩ := hcut
  have hn : none_ w.heap.size → False := fun h => h
  replace hU := hU.trans hu2
  replace hN := hN.upd hu2 (fun h => h)
  replace hF := hF.upd hu2 (fun h => h)
  have hr1 := Rd.upd hr hU (fun _ h => h.elim)
  clear hu2 hu HOf HMo HFo
  have f0 := hF.cell 0
  have f1 := hF.cell 1
  have f2 := hF.cell 2
  have f3 := hF.cell 3
  have f4 := hF.cell 4
  have f5 := hF.cell 5
  have c0 := hN.cell 0
  have c1 := hN.cell 1
  have c2 := hN.cell 2
  have c3 := hN.cell 3
  have c4 := hN.cell 4
  have c5 := hN.cell 5
  have c6 := hN.cell 6
  have c7 := hN.cell 7
  have c8 := hN.cell 8
  have c9 := hN.cell 9
  have c10 := hN.cell 10
  have c11 := hN.cell 11
  simp at f0 f1 f2 f3 f4 f5 c0 c1 c2 c3 c4 c5 c6 c7 c8 c9 c10 c11
  cases b
  rotate_left
  · have HX : Hid (checkErr n = 1) := by simp [Hid, checkErr, HB.out]
    go_wp2
    go_ret
    exact ⟨by rw [HX.out]; rfl, hU⟩
  have HC : Hid (checkErr n = chk2 n) := by rw [Hid, checkErr, HK.out, HB.out]; rfl
  clear HB HK
  replace HC : Hid (checkErr n = chk3 n) := by rw [Hid, HC.out]; simp [chk2, HFm.out]
  replace HC : Hid (checkErr n = chk4 n) := by rw [Hid, HC.out]; simp [chk3, HFm.out]
  obtain ⟨e, he⟩ : ∃ e, tradeErr n.trade = e := ⟨_, rfl⟩
  have hct := tcheck_any n.trade.id n.trade.buyer n.trade.seller n.trade.isin n.trade.qty n.trade.price wc
  try rw [he] at hct
  have HCT := Lib.hid hct
  have HE := Lib.hid he
  clear hct he
  go_wp2_with fail
  refine HCT.out.mono ?_
  rintro e' w3 ⟨rfl, hu3⟩
  clear HCT
  clear f0 f1 f2 f3 f4 f5 c0 c1 c2 c3 c4 c5 c6 c7 c8 c9 c10 c11
  replace hU := hU.trans hu3
  replace hN := hN.upd hu3 (fun h => h)
  replace hF := hF.upd hu3 (fun h => h)
  replace hr1 := Rd.upd hr hU (fun _ h => h.elim)
  have f0 := hF.cell 0
  have f1 := hF.cell 1
  have f2 := hF.cell 2
  have f3 := hF.cell 3
  have f4 := hF.cell 4
  have f5 := hF.cell 5
  have c0 := hN.cell 0
  have c1 := hN.cell 1
  have c2 := hN.cell 2
  have c3 := hN.cell 3
  have c4 := hN.cell 4
  have c5 := hN.cell 5
  have c6 := hN.cell 6
  have c7 := hN.cell 7
  have c8 := hN.cell 8
  have c9 := hN.cell 9
  have c10 := hN.cell 10
  have c11 := hN.cell 11
  simp at f0 f1 f2 f3 f4 f5 c0 c1 c2 c3 c4 c5 c6 c7 c8 c9 c10 c11
  by_cases hz : e = 0
  rotate_left
  · have hzb : (e != 0) = true := by simp [hz]
    have HX : Hid (checkErr n = e) := by rw [Hid, HC.out]; simp [chk4, HFm.out, HE.out, hz]
    clear hz HE
    go_wp2
    go_ret
    exact ⟨by rw [HX.out]; rfl, hU⟩
  have hzb : (e != 0) = false := by simp [hz]
  replace HC : Hid (checkErr n = chk5 n) := by rw [Hid, HC.out]; simp [chk4, HFm.out, HE.out, hz]
  clear HE
  subst hz
  clear hzb
  replace HC : Hid (checkErr n = chk6 n) := by rw [Hid, HC.out]; simp [chk5, HFm.out]
  replace HC : Hid (checkErr n = chk7 n) := by rw [Hid, HC.out]; simp [chk6, HFm.out]
  have HX : Hid (checkErr n = 0) := by rw [Hid, HC.out]; simp [chk7, HFm.out]
  go_wp2
  go_ret
  exact ⟨by rw [HX.out]; rfl, hU⟩

set_option maxRecDepth 100000 in
set_option maxHeartbeats 4000000 in
theorem chk_none (n : Nt) (A : Option Addr) (c : Nat) (w : World) (I : Nat → Prop) (hr : Rws w I A n.rows) (_hl : n.rows.length ≤ 1048576) (hk : isKind n.kind = true) (hf : formOf n.kind = ⟨false, false, false, false, false, false, false⟩) :
    Calls Tryd.prog 11 #[.agg (ntA n A c)] w fun e w' => e = .returned (.int .i64 (checkErr n)) ∧ Upd none_ w w' := by
  have hforms := forms_any n.kind
  have hof : ∀ w, Calls Tryd.prog 26 #[.agg (ntA n A c)] w fun e w' => e = .returned (.agg (fmA (hasNt n))) ∧ Upd none_ w w' := fun w => of_any n.kind n.peer n.day n.trade.id n.trade.buyer n.trade.seller n.trade.isin n.trade.qty n.trade.price n.name n.amount A n.rows.length c n.hi n.lo w
  obtain ⟨b, hb⟩ : ∃ b, moreOf (formOf n.kind) (hasNt n) = b := ⟨_, rfl⟩
  have hmore := more_any (formOf n.kind) (hasNt n)
  rw [hk, hf] at hforms
  rw [hb, hf] at hmore
  have HFo := Lib.hid hforms
  have HMo := Lib.hid hmore
  have HOf := Lib.hid hof
  have HK := Lib.hid hk
  have HB := Lib.hid hb
  have HFm := Lib.hid hf
  clear hforms hmore hof hk hb hf
  go_enter Tryd.func11, Tryd.ntmps11
  go_wp2_with fail
  refine (HFo.out _).mono ?_
  rintro e w1 ⟨rfl, hu⟩
  have hU : Upd none_ w (w1.alloc (.cells (fmA ⟨false, false, false, false, false, false, false⟩) 56)) := (((Upd.refl none_ w).alloc _).trans hu).alloc _
  have hN : Blk (w1.alloc (.cells (fmA ⟨false, false, false, false, false, false, false⟩) 56)) w.heap.size 30 (ntA n A c) := ((Blk.new w 30 (ntA n A c)).upd hu (by intro h; exact h)).alloc _
  have hF : Blk (w1.alloc (.cells (fmA ⟨false, false, false, false, false, false, false⟩) 56)) w1.heap.size 56 (fmA ⟨false, false, false, false, false, false, false⟩) := Blk.new w1 56 (fmA ⟨false, false, false, false, false, false, false⟩)
  have hr1 := Rd.upd hr hU (fun _ h => h.elim)
  go_upto_region 2 with fail
  go_cut [13] from 14 to 21 (fun s wx => s = .bool b ∧ Upd none_ (w1.alloc (.cells (fmA ⟨false, false, false, false, false, false, false⟩) 56)) wx)
  case first =>
    generalize hW : w1.alloc (.cells (fmA ⟨false, false, false, false, false, false, false⟩) 56) = W at *
    have f0 := hF.cell 0
    have f1 := hF.cell 1
    have f2 := hF.cell 2
    have f3 := hF.cell 3
    have f4 := hF.cell 4
    have f5 := hF.cell 5
    have f6 := hF.cell 6
    have c0 := hN.cell 0
    have c1 := hN.cell 1
    have c2 := hN.cell 2
    have c3 := hN.cell 3
    have c4 := hN.cell 4
    have c5 := hN.cell 5
    have c6 := hN.cell 6
    have c7 := hN.cell 7
    have c8 := hN.cell 8
    have c9 := hN.cell 9
    have c10 := hN.cell 10
    have c11 := hN.cell 11
    have c12 := hN.cell 12
    have c13 := hN.cell 13
    simp at f0 f1 f2 f3 f4 f5 f6 c0 c1 c2 c3 c4 c5 c6 c7 c8 c9 c10 c11 c12 c13
    go_region_with (first | (go_at_call 26; refine (HOf.out _).mono ?_; rintro e w2 ⟨rfl, hz⟩; have hF2 := hF.upd (hu_drew hz) (by intro h; exact h); have g0 := hF2.cell 0; have g1 := hF2.cell 1; have g2 := hF2.cell 2; have g3 := hF2.cell 3; have g4 := hF2.cell 4; have g5 := hF2.cell 5; have g6 := hF2.cell 6; simp at g0 g1 g2 g3 g4 g5 g6) | (go_at_call 25; refine (HMo.out _).mono ?_; rintro e w3 ⟨rfl, hz3⟩))
    all_goals (go_wp2_with fail; go_meet)
    all_goals exact ⟨rfl, (hu_drew hz).trans hz3⟩
  case rest =>
  obtain ⟨rfl, hu2⟩ := hcut
  have hn : none_ w.heap.size → False := fun h => h
  replace hU := hU.trans hu2
  replace hN := hN.upd hu2 (fun h => h)
  replace hF := hF.upd hu2 (fun h => h)
  have hr1 := Rd.upd hr hU (fun _ h => h.elim)
  clear hu2 hu HOf HMo HFo
  have f0 := hF.cell 0
  have f1 := hF.cell 1
  have f2 := hF.cell 2
  have f3 := hF.cell 3
  have f4 := hF.cell 4
  have f5 := hF.cell 5
  have c0 := hN.cell 0
  have c1 := hN.cell 1
  have c2 := hN.cell 2
  have c3 := hN.cell 3
  have c4 := hN.cell 4
  have c5 := hN.cell 5
  have c6 := hN.cell 6
  have c7 := hN.cell 7
  have c8 := hN.cell 8
  have c9 := hN.cell 9
  have c10 := hN.cell 10
  have c11 := hN.cell 11
  simp at f0 f1 f2 f3 f4 f5 c0 c1 c2 c3 c4 c5 c6 c7 c8 c9 c10 c11
  cases b
  rotate_left
  · have HX : Hid (checkErr n = 1) := by simp [Hid, checkErr, HB.out]
    go_wp2
    go_ret
    exact ⟨by rw [HX.out]; rfl, hU⟩
  have HC : Hid (checkErr n = chk2 n) := by rw [Hid, checkErr, HK.out, HB.out]; rfl
  clear HB HK
  replace HC : Hid (checkErr n = chk3 n) := by rw [Hid, HC.out]; simp [chk2, HFm.out]
  replace HC : Hid (checkErr n = chk4 n) := by rw [Hid, HC.out]; simp [chk3, HFm.out]
  replace HC : Hid (checkErr n = chk5 n) := by rw [Hid, HC.out]; simp [chk4, HFm.out]
  replace HC : Hid (checkErr n = chk6 n) := by rw [Hid, HC.out]; simp [chk5, HFm.out]
  replace HC : Hid (checkErr n = chk7 n) := by rw [Hid, HC.out]; simp [chk6, HFm.out]
  have HX : Hid (checkErr n = 0) := by rw [Hid, HC.out]; simp [chk7, HFm.out]
  go_wp2
  go_ret
  exact ⟨by rw [HX.out]; rfl, hU⟩

set_option maxRecDepth 100000 in
set_option maxHeartbeats 4000000 in
theorem chk_day (n : Nt) (A : Option Addr) (c : Nat) (w : World) (I : Nat → Prop) (hr : Rws w I A n.rows) (_hl : n.rows.length ≤ 1048576) (hk : isKind n.kind = true) (hf : formOf n.kind = ⟨false, true, false, false, false, false, false⟩) :
    Calls Tryd.prog 11 #[.agg (ntA n A c)] w fun e w' => e = .returned (.int .i64 (checkErr n)) ∧ Upd none_ w w' := by
  have hforms := forms_any n.kind
  have hof : ∀ w, Calls Tryd.prog 26 #[.agg (ntA n A c)] w fun e w' => e = .returned (.agg (fmA (hasNt n))) ∧ Upd none_ w w' := fun w => of_any n.kind n.peer n.day n.trade.id n.trade.buyer n.trade.seller n.trade.isin n.trade.qty n.trade.price n.name n.amount A n.rows.length c n.hi n.lo w
  obtain ⟨b, hb⟩ : ∃ b, moreOf (formOf n.kind) (hasNt n) = b := ⟨_, rfl⟩
  have hmore := more_any (formOf n.kind) (hasNt n)
  rw [hk, hf] at hforms
  rw [hb, hf] at hmore
  have HFo := Lib.hid hforms
  have HMo := Lib.hid hmore
  have HOf := Lib.hid hof
  have HK := Lib.hid hk
  have HB := Lib.hid hb
  have HFm := Lib.hid hf
  clear hforms hmore hof hk hb hf
  go_enter Tryd.func11, Tryd.ntmps11
  go_wp2_with fail
  refine (HFo.out _).mono ?_
  rintro e w1 ⟨rfl, hu⟩
  have hU : Upd none_ w (w1.alloc (.cells (fmA ⟨false, true, false, false, false, false, false⟩) 56)) := (((Upd.refl none_ w).alloc _).trans hu).alloc _
  have hN : Blk (w1.alloc (.cells (fmA ⟨false, true, false, false, false, false, false⟩) 56)) w.heap.size 30 (ntA n A c) := ((Blk.new w 30 (ntA n A c)).upd hu (by intro h; exact h)).alloc _
  have hF : Blk (w1.alloc (.cells (fmA ⟨false, true, false, false, false, false, false⟩) 56)) w1.heap.size 56 (fmA ⟨false, true, false, false, false, false, false⟩) := Blk.new w1 56 (fmA ⟨false, true, false, false, false, false, false⟩)
  have hr1 := Rd.upd hr hU (fun _ h => h.elim)
  go_upto_region 2 with fail
  go_cut [13] from 14 to 21 (fun s wx => s = .bool b ∧ Upd none_ (w1.alloc (.cells (fmA ⟨false, true, false, false, false, false, false⟩) 56)) wx)
  case first =>
    generalize hW : w1.alloc (.cells (fmA ⟨false, true, false, false, false, false, false⟩) 56) = W at *
    have f0 := hF.cell 0
    have f1 := hF.cell 1
    have f2 := hF.cell 2
    have f3 := hF.cell 3
    have f4 := hF.cell 4
    have f5 := hF.cell 5
    have f6 := hF.cell 6
    have c0 := hN.cell 0
    have c1 := hN.cell 1
    have c2 := hN.cell 2
    have c3 := hN.cell 3
    have c4 := hN.cell 4
    have c5 := hN.cell 5
    have c6 := hN.cell 6
    have c7 := hN.cell 7
    have c8 := hN.cell 8
    have c9 := hN.cell 9
    have c10 := hN.cell 10
    have c11 := hN.cell 11
    have c12 := hN.cell 12
    have c13 := hN.cell 13
    simp at f0 f1 f2 f3 f4 f5 f6 c0 c1 c2 c3 c4 c5 c6 c7 c8 c9 c10 c11 c12 c13
    go_region_with (first | (go_at_call 26; refine (HOf.out _).mono ?_; rintro e w2 ⟨rfl, hz⟩; have hF2 := hF.upd (hu_drew hz) (by intro h; exact h); have g0 := hF2.cell 0; have g1 := hF2.cell 1; have g2 := hF2.cell 2; have g3 := hF2.cell 3; have g4 := hF2.cell 4; have g5 := hF2.cell 5; have g6 := hF2.cell 6; simp at g0 g1 g2 g3 g4 g5 g6) | (go_at_call 25; refine (HMo.out _).mono ?_; rintro e w3 ⟨rfl, hz3⟩))
    all_goals (go_wp2_with fail; go_meet)
    all_goals exact ⟨rfl, (hu_drew hz).trans hz3⟩
  case rest =>
  obtain ⟨rfl, hu2⟩ := hcut
  have hn : none_ w.heap.size → False := fun h => h
  replace hU := hU.trans hu2
  replace hN := hN.upd hu2 (fun h => h)
  replace hF := hF.upd hu2 (fun h => h)
  have hr1 := Rd.upd hr hU (fun _ h => h.elim)
  clear hu2 hu HOf HMo HFo
  have f0 := hF.cell 0
  have f1 := hF.cell 1
  have f2 := hF.cell 2
  have f3 := hF.cell 3
  have f4 := hF.cell 4
  have f5 := hF.cell 5
  have c0 := hN.cell 0
  have c1 := hN.cell 1
  have c2 := hN.cell 2
  have c3 := hN.cell 3
  have c4 := hN.cell 4
  have c5 := hN.cell 5
  have c6 := hN.cell 6
  have c7 := hN.cell 7
  have c8 := hN.cell 8
  have c9 := hN.cell 9
  have c10 := hN.cell 10
  have c11 := hN.cell 11
  simp at f0 f1 f2 f3 f4 f5 c0 c1 c2 c3 c4 c5 c6 c7 c8 c9 c10 c11
  cases b
  rotate_left
  · have HX : Hid (checkErr n = 1) := by simp [Hid, checkErr, HB.out]
    go_wp2
    go_ret
    exact ⟨by rw [HX.out]; rfl, hU⟩
  have HC : Hid (checkErr n = chk2 n) := by rw [Hid, checkErr, HK.out, HB.out]; rfl
  clear HB HK
  replace HC : Hid (checkErr n = chk3 n) := by rw [Hid, HC.out]; simp [chk2, HFm.out]
  by_cases q3 : n.day < 1
  · have HX : Hid (checkErr n = 2) := by rw [Hid, HC.out]; simp [chk3, HFm.out, q3]
    go_wp2
    go_ret
    exact ⟨by rw [HX.out]; rfl, hU⟩
  by_cases q4 : 500 < n.day
  · have HX : Hid (checkErr n = 2) := by rw [Hid, HC.out]; simp [chk3, HFm.out, q4]
    go_wp2
    go_ret
    exact ⟨by rw [HX.out]; rfl, hU⟩
  replace HC : Hid (checkErr n = chk4 n) := by rw [Hid, HC.out]; simp [chk3, HFm.out, q3, q4]
  replace HC : Hid (checkErr n = chk5 n) := by rw [Hid, HC.out]; simp [chk4, HFm.out]
  replace HC : Hid (checkErr n = chk6 n) := by rw [Hid, HC.out]; simp [chk5, HFm.out]
  replace HC : Hid (checkErr n = chk7 n) := by rw [Hid, HC.out]; simp [chk6, HFm.out]
  have HX : Hid (checkErr n = 0) := by rw [Hid, HC.out]; simp [chk7, HFm.out]
  go_wp2
  go_ret
  exact ⟨by rw [HX.out]; rfl, hU⟩

set_option maxRecDepth 100000 in
set_option maxHeartbeats 4000000 in
theorem chk_peer (n : Nt) (A : Option Addr) (c : Nat) (w : World) (I : Nat → Prop) (hr : Rws w I A n.rows) (_hl : n.rows.length ≤ 1048576) (hk : isKind n.kind = true) (hf : formOf n.kind = ⟨true, false, false, false, false, false, false⟩) :
    Calls Tryd.prog 11 #[.agg (ntA n A c)] w fun e w' => e = .returned (.int .i64 (checkErr n)) ∧ Upd none_ w w' := by
  have hforms := forms_any n.kind
  have hof : ∀ w, Calls Tryd.prog 26 #[.agg (ntA n A c)] w fun e w' => e = .returned (.agg (fmA (hasNt n))) ∧ Upd none_ w w' := fun w => of_any n.kind n.peer n.day n.trade.id n.trade.buyer n.trade.seller n.trade.isin n.trade.qty n.trade.price n.name n.amount A n.rows.length c n.hi n.lo w
  obtain ⟨b, hb⟩ : ∃ b, moreOf (formOf n.kind) (hasNt n) = b := ⟨_, rfl⟩
  have hmore := more_any (formOf n.kind) (hasNt n)
  rw [hk, hf] at hforms
  rw [hb, hf] at hmore
  have HFo := Lib.hid hforms
  have HMo := Lib.hid hmore
  have HOf := Lib.hid hof
  have HK := Lib.hid hk
  have HB := Lib.hid hb
  have HFm := Lib.hid hf
  clear hforms hmore hof hk hb hf
  go_enter Tryd.func11, Tryd.ntmps11
  go_wp2_with fail
  refine (HFo.out _).mono ?_
  rintro e w1 ⟨rfl, hu⟩
  have hU : Upd none_ w (w1.alloc (.cells (fmA ⟨true, false, false, false, false, false, false⟩) 56)) := (((Upd.refl none_ w).alloc _).trans hu).alloc _
  have hN : Blk (w1.alloc (.cells (fmA ⟨true, false, false, false, false, false, false⟩) 56)) w.heap.size 30 (ntA n A c) := ((Blk.new w 30 (ntA n A c)).upd hu (by intro h; exact h)).alloc _
  have hF : Blk (w1.alloc (.cells (fmA ⟨true, false, false, false, false, false, false⟩) 56)) w1.heap.size 56 (fmA ⟨true, false, false, false, false, false, false⟩) := Blk.new w1 56 (fmA ⟨true, false, false, false, false, false, false⟩)
  have hr1 := Rd.upd hr hU (fun _ h => h.elim)
  go_upto_region 2 with fail
  go_cut [13] from 14 to 21 (fun s wx => s = .bool b ∧ Upd none_ (w1.alloc (.cells (fmA ⟨true, false, false, false, false, false, false⟩) 56)) wx)
  case first =>
    generalize hW : w1.alloc (.cells (fmA ⟨true, false, false, false, false, false, false⟩) 56) = W at *
    have f0 := hF.cell 0
    have f1 := hF.cell 1
    have f2 := hF.cell 2
    have f3 := hF.cell 3
    have f4 := hF.cell 4
    have f5 := hF.cell 5
    have f6 := hF.cell 6
    have c0 := hN.cell 0
    have c1 := hN.cell 1
    have c2 := hN.cell 2
    have c3 := hN.cell 3
    have c4 := hN.cell 4
    have c5 := hN.cell 5
    have c6 := hN.cell 6
    have c7 := hN.cell 7
    have c8 := hN.cell 8
    have c9 := hN.cell 9
    have c10 := hN.cell 10
    have c11 := hN.cell 11
    have c12 := hN.cell 12
    have c13 := hN.cell 13
    simp at f0 f1 f2 f3 f4 f5 f6 c0 c1 c2 c3 c4 c5 c6 c7 c8 c9 c10 c11 c12 c13
    go_region_with (first | (go_at_call 26; refine (HOf.out _).mono ?_; rintro e w2 ⟨rfl, hz⟩; have hF2 := hF.upd (hu_drew hz) (by intro h; exact h); have g0 := hF2.cell 0; have g1 := hF2.cell 1; have g2 := hF2.cell 2; have g3 := hF2.cell 3; have g4 := hF2.cell 4; have g5 := hF2.cell 5; have g6 := hF2.cell 6; simp at g0 g1 g2 g3 g4 g5 g6) | (go_at_call 25; refine (HMo.out _).mono ?_; rintro e w3 ⟨rfl, hz3⟩))
    all_goals (go_wp2_with fail; go_meet)
    all_goals exact ⟨rfl, (hu_drew hz).trans hz3⟩
  case rest =>
  obtain ⟨rfl, hu2⟩ := hcut
  have hn : none_ w.heap.size → False := fun h => h
  replace hU := hU.trans hu2
  replace hN := hN.upd hu2 (fun h => h)
  replace hF := hF.upd hu2 (fun h => h)
  have hr1 := Rd.upd hr hU (fun _ h => h.elim)
  clear hu2 hu HOf HMo HFo
  have f0 := hF.cell 0
  have f1 := hF.cell 1
  have f2 := hF.cell 2
  have f3 := hF.cell 3
  have f4 := hF.cell 4
  have f5 := hF.cell 5
  have c0 := hN.cell 0
  have c1 := hN.cell 1
  have c2 := hN.cell 2
  have c3 := hN.cell 3
  have c4 := hN.cell 4
  have c5 := hN.cell 5
  have c6 := hN.cell 6
  have c7 := hN.cell 7
  have c8 := hN.cell 8
  have c9 := hN.cell 9
  have c10 := hN.cell 10
  have c11 := hN.cell 11
  simp at f0 f1 f2 f3 f4 f5 c0 c1 c2 c3 c4 c5 c6 c7 c8 c9 c10 c11
  cases b
  rotate_left
  · have HX : Hid (checkErr n = 1) := by simp [Hid, checkErr, HB.out]
    go_wp2
    go_ret
    exact ⟨by rw [HX.out]; rfl, hU⟩
  have HC : Hid (checkErr n = chk2 n) := by rw [Hid, checkErr, HK.out, HB.out]; rfl
  clear HB HK
  by_cases q1 : n.peer < 0
  · have HX : Hid (checkErr n = 5) := by rw [Hid, HC.out]; simp [chk2, HFm.out, q1]
    go_wp2
    go_ret
    exact ⟨by rw [HX.out]; rfl, hU⟩
  by_cases q2 : 3 ≤ n.peer
  · have HX : Hid (checkErr n = 5) := by rw [Hid, HC.out]; simp [chk2, HFm.out, q2]
    go_wp2
    go_ret
    exact ⟨by rw [HX.out]; rfl, hU⟩
  replace HC : Hid (checkErr n = chk3 n) := by rw [Hid, HC.out]; simp [chk2, HFm.out, q1, q2]
  replace HC : Hid (checkErr n = chk4 n) := by rw [Hid, HC.out]; simp [chk3, HFm.out]
  replace HC : Hid (checkErr n = chk5 n) := by rw [Hid, HC.out]; simp [chk4, HFm.out]
  replace HC : Hid (checkErr n = chk6 n) := by rw [Hid, HC.out]; simp [chk5, HFm.out]
  replace HC : Hid (checkErr n = chk7 n) := by rw [Hid, HC.out]; simp [chk6, HFm.out]
  have HX : Hid (checkErr n = 0) := by rw [Hid, HC.out]; simp [chk7, HFm.out]
  go_wp2
  go_ret
  exact ⟨by rw [HX.out]; rfl, hU⟩

set_option maxRecDepth 100000 in
set_option maxHeartbeats 4000000 in
theorem chk_leg (n : Nt) (A : Option Addr) (c : Nat) (w : World) (I : Nat → Prop) (hr : Rws w I A n.rows) (_hl : n.rows.length ≤ 1048576) (hk : isKind n.kind = true) (hf : formOf n.kind = ⟨true, true, true, false, false, false, false⟩) :
    Calls Tryd.prog 11 #[.agg (ntA n A c)] w fun e w' => e = .returned (.int .i64 (checkErr n)) ∧ Upd none_ w w' := by
  have hforms := forms_any n.kind
  have hof : ∀ w, Calls Tryd.prog 26 #[.agg (ntA n A c)] w fun e w' => e = .returned (.agg (fmA (hasNt n))) ∧ Upd none_ w w' := fun w => of_any n.kind n.peer n.day n.trade.id n.trade.buyer n.trade.seller n.trade.isin n.trade.qty n.trade.price n.name n.amount A n.rows.length c n.hi n.lo w
  obtain ⟨b, hb⟩ : ∃ b, moreOf (formOf n.kind) (hasNt n) = b := ⟨_, rfl⟩
  have hmore := more_any (formOf n.kind) (hasNt n)
  rw [hk, hf] at hforms
  rw [hb, hf] at hmore
  have HFo := Lib.hid hforms
  have HMo := Lib.hid hmore
  have HOf := Lib.hid hof
  have HK := Lib.hid hk
  have HB := Lib.hid hb
  have HFm := Lib.hid hf
  clear hforms hmore hof hk hb hf
  go_enter Tryd.func11, Tryd.ntmps11
  go_wp2_with fail
  refine (HFo.out _).mono ?_
  rintro e w1 ⟨rfl, hu⟩
  have hU : Upd none_ w (w1.alloc (.cells (fmA ⟨true, true, true, false, false, false, false⟩) 56)) := (((Upd.refl none_ w).alloc _).trans hu).alloc _
  have hN : Blk (w1.alloc (.cells (fmA ⟨true, true, true, false, false, false, false⟩) 56)) w.heap.size 30 (ntA n A c) := ((Blk.new w 30 (ntA n A c)).upd hu (by intro h; exact h)).alloc _
  have hF : Blk (w1.alloc (.cells (fmA ⟨true, true, true, false, false, false, false⟩) 56)) w1.heap.size 56 (fmA ⟨true, true, true, false, false, false, false⟩) := Blk.new w1 56 (fmA ⟨true, true, true, false, false, false, false⟩)
  have hr1 := Rd.upd hr hU (fun _ h => h.elim)
  go_upto_region 2 with fail
  go_cut [13] from 14 to 21 (fun s wx => s = .bool b ∧ Upd none_ (w1.alloc (.cells (fmA ⟨true, true, true, false, false, false, false⟩) 56)) wx)
  case first =>
    generalize hW : w1.alloc (.cells (fmA ⟨true, true, true, false, false, false, false⟩) 56) = W at *
    have f0 := hF.cell 0
    have f1 := hF.cell 1
    have f2 := hF.cell 2
    have f3 := hF.cell 3
    have f4 := hF.cell 4
    have f5 := hF.cell 5
    have f6 := hF.cell 6
    have c0 := hN.cell 0
    have c1 := hN.cell 1
    have c2 := hN.cell 2
    have c3 := hN.cell 3
    have c4 := hN.cell 4
    have c5 := hN.cell 5
    have c6 := hN.cell 6
    have c7 := hN.cell 7
    have c8 := hN.cell 8
    have c9 := hN.cell 9
    have c10 := hN.cell 10
    have c11 := hN.cell 11
    have c12 := hN.cell 12
    have c13 := hN.cell 13
    simp at f0 f1 f2 f3 f4 f5 f6 c0 c1 c2 c3 c4 c5 c6 c7 c8 c9 c10 c11 c12 c13
    go_region_with (first | (go_at_call 26; refine (HOf.out _).mono ?_; rintro e w2 ⟨rfl, hz⟩; have hF2 := hF.upd (hu_drew hz) (by intro h; exact h); have g0 := hF2.cell 0; have g1 := hF2.cell 1; have g2 := hF2.cell 2; have g3 := hF2.cell 3; have g4 := hF2.cell 4; have g5 := hF2.cell 5; have g6 := hF2.cell 6; simp at g0 g1 g2 g3 g4 g5 g6) | (go_at_call 25; refine (HMo.out _).mono ?_; rintro e w3 ⟨rfl, hz3⟩))
    all_goals (go_wp2_with fail; go_meet)
    all_goals exact ⟨rfl, (hu_drew hz).trans hz3⟩
  case rest =>
  obtain ⟨rfl, hu2⟩ := hcut
  have hn : none_ w.heap.size → False := fun h => h
  replace hU := hU.trans hu2
  replace hN := hN.upd hu2 (fun h => h)
  replace hF := hF.upd hu2 (fun h => h)
  have hr1 := Rd.upd hr hU (fun _ h => h.elim)
  clear hu2 hu HOf HMo HFo
  have f0 := hF.cell 0
  have f1 := hF.cell 1
  have f2 := hF.cell 2
  have f3 := hF.cell 3
  have f4 := hF.cell 4
  have f5 := hF.cell 5
  have c0 := hN.cell 0
  have c1 := hN.cell 1
  have c2 := hN.cell 2
  have c3 := hN.cell 3
  have c4 := hN.cell 4
  have c5 := hN.cell 5
  have c6 := hN.cell 6
  have c7 := hN.cell 7
  have c8 := hN.cell 8
  have c9 := hN.cell 9
  have c10 := hN.cell 10
  have c11 := hN.cell 11
  simp at f0 f1 f2 f3 f4 f5 c0 c1 c2 c3 c4 c5 c6 c7 c8 c9 c10 c11
  cases b
  rotate_left
  · have HX : Hid (checkErr n = 1) := by simp [Hid, checkErr, HB.out]
    go_wp2
    go_ret
    exact ⟨by rw [HX.out]; rfl, hU⟩
  have HC : Hid (checkErr n = chk2 n) := by rw [Hid, checkErr, HK.out, HB.out]; rfl
  clear HB HK
  by_cases q1 : n.peer < 0
  · have HX : Hid (checkErr n = 5) := by rw [Hid, HC.out]; simp [chk2, HFm.out, q1]
    go_wp2
    go_ret
    exact ⟨by rw [HX.out]; rfl, hU⟩
  by_cases q2 : 3 ≤ n.peer
  · have HX : Hid (checkErr n = 5) := by rw [Hid, HC.out]; simp [chk2, HFm.out, q2]
    go_wp2
    go_ret
    exact ⟨by rw [HX.out]; rfl, hU⟩
  replace HC : Hid (checkErr n = chk3 n) := by rw [Hid, HC.out]; simp [chk2, HFm.out, q1, q2]
  by_cases q3 : n.day < 1
  · have HX : Hid (checkErr n = 2) := by rw [Hid, HC.out]; simp [chk3, HFm.out, q3]
    go_wp2
    go_ret
    exact ⟨by rw [HX.out]; rfl, hU⟩
  by_cases q4 : 500 < n.day
  · have HX : Hid (checkErr n = 2) := by rw [Hid, HC.out]; simp [chk3, HFm.out, q4]
    go_wp2
    go_ret
    exact ⟨by rw [HX.out]; rfl, hU⟩
  replace HC : Hid (checkErr n = chk4 n) := by rw [Hid, HC.out]; simp [chk3, HFm.out, q3, q4]
  obtain ⟨e, he⟩ : ∃ e, tradeErr n.trade = e := ⟨_, rfl⟩
  have hct := tcheck_any n.trade.id n.trade.buyer n.trade.seller n.trade.isin n.trade.qty n.trade.price wc
  try rw [he] at hct
  have HCT := Lib.hid hct
  have HE := Lib.hid he
  clear hct he
  go_wp2_with fail
  refine HCT.out.mono ?_
  rintro e' w3 ⟨rfl, hu3⟩
  clear HCT
  clear f0 f1 f2 f3 f4 f5 c0 c1 c2 c3 c4 c5 c6 c7 c8 c9 c10 c11
  replace hU := hU.trans hu3
  replace hN := hN.upd hu3 (fun h => h)
  replace hF := hF.upd hu3 (fun h => h)
  replace hr1 := Rd.upd hr hU (fun _ h => h.elim)
  have f0 := hF.cell 0
  have f1 := hF.cell 1
  have f2 := hF.cell 2
  have f3 := hF.cell 3
  have f4 := hF.cell 4
  have f5 := hF.cell 5
  have c0 := hN.cell 0
  have c1 := hN.cell 1
  have c2 := hN.cell 2
  have c3 := hN.cell 3
  have c4 := hN.cell 4
  have c5 := hN.cell 5
  have c6 := hN.cell 6
  have c7 := hN.cell 7
  have c8 := hN.cell 8
  have c9 := hN.cell 9
  have c10 := hN.cell 10
  have c11 := hN.cell 11
  simp at f0 f1 f2 f3 f4 f5 c0 c1 c2 c3 c4 c5 c6 c7 c8 c9 c10 c11
  by_cases hz : e = 0
  rotate_left
  · have hzb : (e != 0) = true := by simp [hz]
    have HX : Hid (checkErr n = e) := by rw [Hid, HC.out]; simp [chk4, HFm.out, HE.out, hz]
    clear hz HE
    go_wp2
    go_ret
    exact ⟨by rw [HX.out]; rfl, hU⟩
  have hzb : (e != 0) = false := by simp [hz]
  replace HC : Hid (checkErr n = chk5 n) := by rw [Hid, HC.out]; simp [chk4, HFm.out, HE.out, hz]
  clear HE
  subst hz
  clear hzb
  replace HC : Hid (checkErr n = chk6 n) := by rw [Hid, HC.out]; simp [chk5, HFm.out]
  replace HC : Hid (checkErr n = chk7 n) := by rw [Hid, HC.out]; simp [chk6, HFm.out]
  have HX : Hid (checkErr n = 0) := by rw [Hid, HC.out]; simp [chk7, HFm.out]
  go_wp2
  go_ret
  exact ⟨by rw [HX.out]; rfl, hU⟩

end Go.Proofs.YtpffaenjphnfiaaDoor
