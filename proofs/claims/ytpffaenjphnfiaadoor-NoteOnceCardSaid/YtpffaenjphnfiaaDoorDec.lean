/- Decode. -/
import Derived.Test.YtpffaenjphnfiaaDoorNotN2
import Derived.Test.YtpffaenjphnfiaaDoorChkB
namespace Go.Proofs.YtpffaenjphnfiaaDoor
open Go.RowKit
attribute [local go_sem] str_size str_toList str_get

def ntZero : Nt := ⟨0, 0, 0, trZero, [], 0, [], 0, 0⟩
def decErr (p : Nt × RS) : Int := if rDone p.2 = 0 then checkErr p.1 else rDone p.2
def dec (bs : List UInt8) : Nt × Int := if decErr (rNote (0, bs)) = 0 then ((rNote (0, bs)).1, 0) else (ntZero, decErr (rNote (0, bs)))

theorem rRows_len (s : RS) : (rRows s).1.length ≤ 32 := by
  unfold rRows
  rw [rRowsLoop_len]
  have := rCount_le 32 s (by omega)
  omega
theorem rNote_rows (s : RS) : (rNote s).1.rows.length ≤ 32 := by
  have hh : ∀ (b : Bool) (s : RS), (opt b rRows [] s).1.length ≤ 32 := by
    intro b s
    cases b
    · simp [opt]
    · exact rRows_len s
  exact hh _ _

abbrev ntAz : Array Value := #[.int .i64 0, .int .i64 0, .int .i64 0, .int .i64 0, .string ⟨#[]⟩, .string ⟨#[]⟩, .string ⟨#[]⟩, .int .i64 0, .int .i64 0, .string ⟨#[]⟩, .int .i64 0, .slice none 0 0, .int .i64 0, .int .u64 0]

set_option maxRecDepth 100000 in
set_option maxHeartbeats 4000000 in
theorem decode_any (A : Option Addr) (c : Nat) (bs : List UInt8) (w : World) (I : Nat → Prop) (hI : ∀ k, I k → k < w.heap.size) (hA : Bs w I A bs) (hc : bs.length ≤ c) (hl : bs.length ≤ 140737488355328) :
    Calls Tryd.prog 4 #[.slice A bs.length c] w fun e w' => ∃ A' c', e = .returned (.tuple #[.agg (ntA (dec bs).1 A' c'), .int .i64 (dec bs).2]) ∧ Rws w' (fun k => w.heap.size ≤ k) A' (dec bs).1.rows ∧ Upd none_ w w' := by
  obtain ⟨q, hq⟩ : ∃ q, dec bs = q := ⟨_, rfl⟩
  rw [hq]
  have hrw := rNote_rows (0, bs)
  unfold dec at hq
  have hct := fun g w' hI' h => rnote_any g (0, bs) w' I hI' h
  generalize rNote (0, bs) = p at *
  obtain ⟨n, s⟩ := p
  have HQ := Lib.hid hq
  have HN := Lib.hid hct
  have HR := Lib.hid hrw
  clear hq hct hrw
  have hR := Blk.new w 30 ntAz
  have hA1 := Rd.alloc hA (.cells ntAz 30)
  have hI1 : ∀ k, I k → k < (w.alloc (.cells ntAz 30)).heap.size := fun k h => by have := hI k h; simp; omega
  have hU : Upd none_ w (w.alloc (.cells ntAz 30)) := (Upd.refl _ w).alloc _
  go_enter Tryd.func4, Tryd.ntmps4
  go_wp2_with fail
  refine (Read_any A c bs _ I hI1 hA1 hc hl).mono ?_
  rintro e w1 ⟨rfl, hr1, hu1⟩
  replace hR := hR.upd hu1 (fun h => h)
  replace hU := hU.trans hu1
  rw [World.size_alloc] at hr1
  rw [World.size_alloc]
  have g1 := hr1.lt
  have hb := Blk.new w1 40 #[.pointer (some ⟨w.heap.size + 1, 0, none⟩)]
  replace hR := hR.alloc (.cells #[.pointer (some ⟨w.heap.size + 1, 0, none⟩)] 40)
  replace hr1 := hr1.upd ((Upd.refl none_ w1).alloc (.cells #[.pointer (some ⟨w.heap.size + 1, 0, none⟩)] 40)) (fun h => h) (fun _ h => h.elim)
  replace hU := hU.alloc (.cells #[.pointer (some ⟨w.heap.size + 1, 0, none⟩)] 40)
  clear hu1 hA1 hI1
  go_upto_region 2 with fail
  refine wp_abs (fun w2 hw2 => ?_)
  rw [← hw2] at hR hb hr1 hU
  clear hw2
  generalize hYn : w1.heap.size = Y at *
  clear hYn
  have hI2 : ∀ k, I k → k < w2.heap.size := fun k h => by have := hI k h; have := hU.size; omega
  have b0 := hb.cell 0
  simp at b0
  have gY := hb.lt
  have s2 := hU.size
  go_wp2_with fail
  refine (HN.out (w.heap.size + 1) w2 hI2 hr1).mono ?_
  rintro e w3 ⟨v, rfl, ⟨A', c', rfl, hrw⟩, hr3, hu3⟩
  clear b0 hr1 HN
  replace hR := hR.upd hu3 (by omega)
  replace hb := hb.upd hu3 (by omega)
  have hU3 : Upd none_ w w3 := hU.then_ hu3 (fun k h => .inr (by omega))
  have hN := Blk.new w3 30 (ntA n A' c')
  replace hR := hR.alloc (.cells (ntA n A' c') 30)
  replace hb := hb.alloc (.cells (ntA n A' c') 30)
  replace hr3 := hr3.upd ((Upd.refl none_ w3).alloc (.cells (ntA n A' c') 30)) (fun h => h) (fun _ h => h.elim)
  replace hrw := Rd.alloc hrw (.cells (ntA n A' c') 30)
  replace hU3 := hU3.alloc (.cells (ntA n A' c') 30)
  go_upto_region 3 with fail
  refine wp_abs (fun w4 hw4 => ?_)
  rw [← hw4] at hR hb hr3 hU3 hrw hN
  clear hw4 hU
  have b0 := hb.cell 0
  simp at b0
  go_wp2_with fail
  refine (RDone_any _ s w4 I hr3).mono ?_
  rintro e w5 ⟨rfl, rfl⟩
  have hNE : Hid (∀ W, Upd none_ w4 W → Calls Tryd.prog 11 #[.agg (ntA n A' c')] W fun e w' => e = .returned (.int .i64 (checkErr n)) ∧ Upd none_ W w') :=
    fun W hW => check_any n A' c' W _ (Rd.upd hrw hW (fun _ h => h.elim)) (Nat.le_trans HR.out (by omega))
  obtain ⟨d, hd⟩ : ∃ d, rDone s = d := ⟨_, rfl⟩
  have hq2 := HQ.out
  simp only [decErr] at hq2
  rw [hd] at hq2
  clear HQ
  obtain ⟨ce, hce⟩ : ∃ ce, checkErr n = ce := ⟨_, rfl⟩
  rw [hce] at hq2
  have hNE2 := hNE.out
  rw [hce] at hNE2
  have HNE := Lib.hid hNE2
  clear hNE hNE2 hce b0
  have HRW := Lib.hid hrw
  have HSZ := Lib.hid s2
  clear hrw s2
  rw [hd]
  clear hd HR
  by_cases hd0 : d = 0
  · subst hd0
    have c0 := hN.cell 0
    have c1 := hN.cell 1
    have c2 := hN.cell 2
    have c3 := hN.cell 3
    have c4 := hN.cell 4
    have c5 := hN.cell 5
    have c6 := hN.cell 6
    have c7 := hN.cell 7
    have c8 := hN.cell 8
    have c9 := hN.cell 9
    have c10 := hN.cell 10
    have c11 := hN.cell 11
    have c12 := hN.cell 12
    have c13 := hN.cell 13
    simp at c0 c1 c2 c3 c4 c5 c6 c7 c8 c9 c10 c11 c12 c13
    by_cases hc0 : ce = 0
    · subst hc0
      have HQ2 : Hid ((n, 0) = q) := by rw [Hid, ← hq2]; simp
      clear hq2
      go_wp2_with fail
      refine (HNE.out w4 (Upd.refl _ _)).mono ?_
      rintro e w6 ⟨rfl, hu6⟩
      clear c0 c1 c2 c3 c4 c5 c6 c7 c8 c9 c10 c11 c12 c13
      replace hR := hR.upd hu6 (fun h => h)
      replace hU3 := hU3.trans hu6
      replace hN := hN.upd hu6 (fun h => h)
      replace HRW := Lib.hid (Rd.upd HRW.out hu6 (fun _ h => h.elim))
      have hw2 := HSZ.out
      have hlt2 : w.heap.size < w2.heap.size := by omega
      have x0 := hN.cell 0
      have x1 := hN.cell 1
      have x2 := hN.cell 2
      have x3 := hN.cell 3
      have x4 := hN.cell 4
      have x5 := hN.cell 5
      have x6 := hN.cell 6
      have x7 := hN.cell 7
      have x8 := hN.cell 8
      have x9 := hN.cell 9
      have x10 := hN.cell 10
      have x11 := hN.cell 11
      have x12 := hN.cell 12
      have x13 := hN.cell 13
      have z0 := hR.cell 0
      have z1 := hR.cell 1
      have z2 := hR.cell 2
      have z3 := hR.cell 3
      have z4 := hR.cell 4
      have z5 := hR.cell 5
      have z6 := hR.cell 6
      have z7 := hR.cell 7
      have z8 := hR.cell 8
      have z9 := hR.cell 9
      have z10 := hR.cell 10
      have z11 := hR.cell 11
      have z12 := hR.cell 12
      have z13 := hR.cell 13
      have fz0 := hR.frozen 0
      have fz1 := hR.frozen 1
      have fz2 := hR.frozen 2
      have fz3 := hR.frozen 3
      have fz4 := hR.frozen 4
      have fz5 := hR.frozen 5
      have fz6 := hR.frozen 6
      have fz7 := hR.frozen 7
      have fz8 := hR.frozen 8
      have fz9 := hR.frozen 9
      have fz10 := hR.frozen 10
      have fz11 := hR.frozen 11
      have fz12 := hR.frozen 12
      have fz13 := hR.frozen 13
      simp at x0 z0 x1 z1 x2 z2 x3 z3 x4 z4 x5 z5 x6 z6 x7 z7 x8 z8 x9 z9 x10 z10 x11 z11 x12 z12 x13 z13
      go_wp2
      clear x0 z0 fz0 x1 z1 fz1 x2 z2 fz2 x3 z3 fz3 x4 z4 fz4 x5 z5 fz5 x6 z6 fz6 x7 z7 fz7 x8 z8 fz8 x9 z9 fz9 x10 z10 fz10 x11 z11 fz11 x12 z12 fz12 x13 z13 fz13
      have hR2 := ((((((((((((((hR.set_ 0 (.int .i64 n.kind)).set_ 1 (.int .i64 n.peer)).set_ 2 (.int .i64 n.day)).set_ 3 (.int .i64 n.trade.id)).set_ 4 (str n.trade.buyer)).set_ 5 (str n.trade.seller)).set_ 6 (str n.trade.isin)).set_ 7 (.int .i64 n.trade.qty)).set_ 8 (.int .i64 n.trade.price)).set_ 9 (str n.name)).set_ 10 (.int .i64 n.amount)).set_ 11 (.slice A' n.rows.length c')).set_ 12 (.int .i64 n.hi)).set_ 13 (.int .u64 (n.lo : Int)))
      have hU2 := ((((((((((((((hU3.new1 (i := 0) (Nat.le_refl _) (.int .i64 n.kind)).new1 (i := 1) (Nat.le_refl _) (.int .i64 n.peer)).new1 (i := 2) (Nat.le_refl _) (.int .i64 n.day)).new1 (i := 3) (Nat.le_refl _) (.int .i64 n.trade.id)).new1 (i := 4) (Nat.le_refl _) (str n.trade.buyer)).new1 (i := 5) (Nat.le_refl _) (str n.trade.seller)).new1 (i := 6) (Nat.le_refl _) (str n.trade.isin)).new1 (i := 7) (Nat.le_refl _) (.int .i64 n.trade.qty)).new1 (i := 8) (Nat.le_refl _) (.int .i64 n.trade.price)).new1 (i := 9) (Nat.le_refl _) (str n.name)).new1 (i := 10) (Nat.le_refl _) (.int .i64 n.amount)).new1 (i := 11) (Nat.le_refl _) (.slice A' n.rows.length c')).new1 (i := 12) (Nat.le_refl _) (.int .i64 n.hi)).new1 (i := 13) (Nat.le_refl _) (.int .u64 (n.lo : Int)))
      simp at hR2
      have hrw2 := (Rd.upd (Rd.upd (Rd.upd (Rd.upd (Rd.upd (Rd.upd (Rd.upd (Rd.upd (Rd.upd (Rd.upd (Rd.upd (Rd.upd (Rd.upd (Rd.upd HRW.out (Upd.set1 _ w.heap.size 0 (.int .i64 n.kind)) (by rintro k rfl; omega)) (Upd.set1 _ w.heap.size 1 (.int .i64 n.peer)) (by rintro k rfl; omega)) (Upd.set1 _ w.heap.size 2 (.int .i64 n.day)) (by rintro k rfl; omega)) (Upd.set1 _ w.heap.size 3 (.int .i64 n.trade.id)) (by rintro k rfl; omega)) (Upd.set1 _ w.heap.size 4 (str n.trade.buyer)) (by rintro k rfl; omega)) (Upd.set1 _ w.heap.size 5 (str n.trade.seller)) (by rintro k rfl; omega)) (Upd.set1 _ w.heap.size 6 (str n.trade.isin)) (by rintro k rfl; omega)) (Upd.set1 _ w.heap.size 7 (.int .i64 n.trade.qty)) (by rintro k rfl; omega)) (Upd.set1 _ w.heap.size 8 (.int .i64 n.trade.price)) (by rintro k rfl; omega)) (Upd.set1 _ w.heap.size 9 (str n.name)) (by rintro k rfl; omega)) (Upd.set1 _ w.heap.size 10 (.int .i64 n.amount)) (by rintro k rfl; omega)) (Upd.set1 _ w.heap.size 11 (.slice A' n.rows.length c')) (by rintro k rfl; omega)) (Upd.set1 _ w.heap.size 12 (.int .i64 n.hi)) (by rintro k rfl; omega)) (Upd.set1 _ w.heap.size 13 (.int .u64 (n.lo : Int))) (by rintro k rfl; omega))
      refine bp_abs (fun wx hwx => ?_)
      rw [← hwx] at hR2 hU2 hrw2
      clear hwx
      have z0 := hR2.cell 0
      have z1 := hR2.cell 1
      have z2 := hR2.cell 2
      have z3 := hR2.cell 3
      have z4 := hR2.cell 4
      have z5 := hR2.cell 5
      have z6 := hR2.cell 6
      have z7 := hR2.cell 7
      have z8 := hR2.cell 8
      have z9 := hR2.cell 9
      have z10 := hR2.cell 10
      have z11 := hR2.cell 11
      have z12 := hR2.cell 12
      have z13 := hR2.cell 13
      simp at z0 z1 z2 z3 z4 z5 z6 z7 z8 z9 z10 z11 z12 z13
      have hq3 := HQ2.out
      subst hq3
      refine bodyPost_ret (v := .tuple #[.agg (ntA n A' c'), .int .i64 0]) (by simp [results, Tryd.results4, go_sem, z0, z1, z2, z3, z4, z5, z6, z7, z8, z9, z10, z11, z12, z13]) rfl ?_
      exact ⟨_, _, rfl, Rd.more hrw2 (fun k h => Nat.le_trans HSZ.out h), hU2⟩
    · have HQ2 : Hid ((ntZero, ce) = q) := by rw [Hid, ← hq2]; simp [hc0]
      have hcb : (ce != 0) = true := by simp [hc0]
      clear hq2 hc0
      go_wp2_with fail
      refine (HNE.out w4 (Upd.refl _ _)).mono ?_
      rintro e w6 ⟨rfl, hu6⟩
      clear c0 c1 c2 c3 c4 c5 c6 c7 c8 c9 c10 c11 c12 c13
      replace hR := hR.upd hu6 (fun h => h)
      replace hU3 := hU3.trans hu6
      have z0 := hR.cell 0
      have z1 := hR.cell 1
      have z2 := hR.cell 2
      have z3 := hR.cell 3
      have z4 := hR.cell 4
      have z5 := hR.cell 5
      have z6 := hR.cell 6
      have z7 := hR.cell 7
      have z8 := hR.cell 8
      have z9 := hR.cell 9
      have z10 := hR.cell 10
      have z11 := hR.cell 11
      have z12 := hR.cell 12
      have z13 := hR.cell 13
      have fz0 := hR.frozen 0
      have fz1 := hR.frozen 1
      have fz2 := hR.frozen 2
      have fz3 := hR.frozen 3
      have fz4 := hR.frozen 4
      have fz5 := hR.frozen 5
      have fz6 := hR.frozen 6
      have fz7 := hR.frozen 7
      have fz8 := hR.frozen 8
      have fz9 := hR.frozen 9
      have fz10 := hR.frozen 10
      have fz11 := hR.frozen 11
      have fz12 := hR.frozen 12
      have fz13 := hR.frozen 13
      simp at z0 z1 z2 z3 z4 z5 z6 z7 z8 z9 z10 z11 z12 z13
      go_wp2
      clear z0 fz0 z1 fz1 z2 fz2 z3 fz3 z4 fz4 z5 fz5 z6 fz6 z7 fz7 z8 fz8 z9 fz9 z10 fz10 z11 fz11 z12 fz12 z13 fz13
      have hR2 := ((((((((((((((hR.set_ 0 (.int .i64 0)).set_ 1 (.int .i64 0)).set_ 2 (.int .i64 0)).set_ 3 (.int .i64 0)).set_ 4 (.string ⟨#[]⟩)).set_ 5 (.string ⟨#[]⟩)).set_ 6 (.string ⟨#[]⟩)).set_ 7 (.int .i64 0)).set_ 8 (.int .i64 0)).set_ 9 (.string ⟨#[]⟩)).set_ 10 (.int .i64 0)).set_ 11 (.slice none 0 0)).set_ 12 (.int .i64 0)).set_ 13 (.int .u64 0))
      have hU2 := ((((((((((((((hU3.new1 (i := 0) (Nat.le_refl _) (.int .i64 0)).new1 (i := 1) (Nat.le_refl _) (.int .i64 0)).new1 (i := 2) (Nat.le_refl _) (.int .i64 0)).new1 (i := 3) (Nat.le_refl _) (.int .i64 0)).new1 (i := 4) (Nat.le_refl _) (.string ⟨#[]⟩)).new1 (i := 5) (Nat.le_refl _) (.string ⟨#[]⟩)).new1 (i := 6) (Nat.le_refl _) (.string ⟨#[]⟩)).new1 (i := 7) (Nat.le_refl _) (.int .i64 0)).new1 (i := 8) (Nat.le_refl _) (.int .i64 0)).new1 (i := 9) (Nat.le_refl _) (.string ⟨#[]⟩)).new1 (i := 10) (Nat.le_refl _) (.int .i64 0)).new1 (i := 11) (Nat.le_refl _) (.slice none 0 0)).new1 (i := 12) (Nat.le_refl _) (.int .i64 0)).new1 (i := 13) (Nat.le_refl _) (.int .u64 0))
      simp at hR2
      refine bp_abs (fun wx hwx => ?_)
      rw [← hwx] at hR2 hU2
      clear hwx
      have z0 := hR2.cell 0
      have z1 := hR2.cell 1
      have z2 := hR2.cell 2
      have z3 := hR2.cell 3
      have z4 := hR2.cell 4
      have z5 := hR2.cell 5
      have z6 := hR2.cell 6
      have z7 := hR2.cell 7
      have z8 := hR2.cell 8
      have z9 := hR2.cell 9
      have z10 := hR2.cell 10
      have z11 := hR2.cell 11
      have z12 := hR2.cell 12
      have z13 := hR2.cell 13
      simp at z0 z1 z2 z3 z4 z5 z6 z7 z8 z9 z10 z11 z12 z13
      have hq3 := HQ2.out
      subst hq3
      refine bodyPost_ret (v := .tuple #[.agg (ntA ntZero none 0), .int .i64 ce]) (by simp [results, Tryd.results4, go_sem, z0, z1, z2, z3, z4, z5, z6, z7, z8, z9, z10, z11, z12, z13, ntZero, trZero]) rfl ?_
      exact ⟨_, _, rfl, Rd.nil_, hU2⟩
  · have hdb : (d == 0) = false := by simp [hd0]
    have hdb2 : (d != 0) = true := by simp [hd0]
    have HQ2 : Hid ((ntZero, d) = q) := by rw [Hid, ← hq2]; simp [hd0]
    clear hq2 hd0
    have z0 := hR.cell 0
    have z1 := hR.cell 1
    have z2 := hR.cell 2
    have z3 := hR.cell 3
    have z4 := hR.cell 4
    have z5 := hR.cell 5
    have z6 := hR.cell 6
    have z7 := hR.cell 7
    have z8 := hR.cell 8
    have z9 := hR.cell 9
    have z10 := hR.cell 10
    have z11 := hR.cell 11
    have z12 := hR.cell 12
    have z13 := hR.cell 13
    have fz0 := hR.frozen 0
    have fz1 := hR.frozen 1
    have fz2 := hR.frozen 2
    have fz3 := hR.frozen 3
    have fz4 := hR.frozen 4
    have fz5 := hR.frozen 5
    have fz6 := hR.frozen 6
    have fz7 := hR.frozen 7
    have fz8 := hR.frozen 8
    have fz9 := hR.frozen 9
    have fz10 := hR.frozen 10
    have fz11 := hR.frozen 11
    have fz12 := hR.frozen 12
    have fz13 := hR.frozen 13
    simp at z0 z1 z2 z3 z4 z5 z6 z7 z8 z9 z10 z11 z12 z13
    go_wp2
    clear z0 fz0 z1 fz1 z2 fz2 z3 fz3 z4 fz4 z5 fz5 z6 fz6 z7 fz7 z8 fz8 z9 fz9 z10 fz10 z11 fz11 z12 fz12 z13 fz13
    have hR2 := ((((((((((((((hR.set_ 0 (.int .i64 0)).set_ 1 (.int .i64 0)).set_ 2 (.int .i64 0)).set_ 3 (.int .i64 0)).set_ 4 (.string ⟨#[]⟩)).set_ 5 (.string ⟨#[]⟩)).set_ 6 (.string ⟨#[]⟩)).set_ 7 (.int .i64 0)).set_ 8 (.int .i64 0)).set_ 9 (.string ⟨#[]⟩)).set_ 10 (.int .i64 0)).set_ 11 (.slice none 0 0)).set_ 12 (.int .i64 0)).set_ 13 (.int .u64 0))
    have hU2 := ((((((((((((((hU3.new1 (i := 0) (Nat.le_refl _) (.int .i64 0)).new1 (i := 1) (Nat.le_refl _) (.int .i64 0)).new1 (i := 2) (Nat.le_refl _) (.int .i64 0)).new1 (i := 3) (Nat.le_refl _) (.int .i64 0)).new1 (i := 4) (Nat.le_refl _) (.string ⟨#[]⟩)).new1 (i := 5) (Nat.le_refl _) (.string ⟨#[]⟩)).new1 (i := 6) (Nat.le_refl _) (.string ⟨#[]⟩)).new1 (i := 7) (Nat.le_refl _) (.int .i64 0)).new1 (i := 8) (Nat.le_refl _) (.int .i64 0)).new1 (i := 9) (Nat.le_refl _) (.string ⟨#[]⟩)).new1 (i := 10) (Nat.le_refl _) (.int .i64 0)).new1 (i := 11) (Nat.le_refl _) (.slice none 0 0)).new1 (i := 12) (Nat.le_refl _) (.int .i64 0)).new1 (i := 13) (Nat.le_refl _) (.int .u64 0))
    simp at hR2
    refine bp_abs (fun wx hwx => ?_)
    rw [← hwx] at hR2 hU2
    clear hwx
    have z0 := hR2.cell 0
    have z1 := hR2.cell 1
    have z2 := hR2.cell 2
    have z3 := hR2.cell 3
    have z4 := hR2.cell 4
    have z5 := hR2.cell 5
    have z6 := hR2.cell 6
    have z7 := hR2.cell 7
    have z8 := hR2.cell 8
    have z9 := hR2.cell 9
    have z10 := hR2.cell 10
    have z11 := hR2.cell 11
    have z12 := hR2.cell 12
    have z13 := hR2.cell 13
    simp at z0 z1 z2 z3 z4 z5 z6 z7 z8 z9 z10 z11 z12 z13
    have hq3 := HQ2.out
    subst hq3
    refine bodyPost_ret (v := .tuple #[.agg (ntA ntZero none 0), .int .i64 d]) (by simp [results, Tryd.results4, go_sem, z0, z1, z2, z3, z4, z5, z6, z7, z8, z9, z10, z11, z12, z13, ntZero, trZero]) rfl ?_
    exact ⟨_, _, rfl, Rd.nil_, hU2⟩
end Go.Proofs.YtpffaenjphnfiaaDoor
