/- The law NoteOnce. -/
import Derived.Deep.CutRange
import Derived.Test.YtpffaenjphnfiaaDoorKnown
import Derived.Test.YtpffaenjphnfiaaDoorNEq2
import Derived.Test.YtpffaenjphnfiaaDoorCan
namespace Go.Proofs.YtpffaenjphnfiaaDoor
open Go.RowKit
attribute [local go_sem] str_size str_toList str_get

theorem dec_inj (a b : List UInt8) (n : Nt) (ha : dec a = (n, 0)) (hb : dec b = (n, 0)) : a = b := by
  obtain ⟨enc, henc⟩ := note_can
  have key : ∀ (a : List UInt8), dec a = (n, 0) → a = enc n := by
    intro a ha
    unfold dec at ha
    by_cases h : decErr (rNote (0, a)) = 0
    · rw [if_pos h] at ha
      have hn : (rNote (0, a)).1 = n := congrArg Prod.fst ha
      unfold decErr at h
      by_cases hd : rDone (rNote (0, a)).2 = 0
      · unfold rDone at hd
        by_cases h1 : (rNote (0, a)).2.1 ≠ 0
        · rw [if_pos h1] at hd; exact absurd hd h1
        · rw [if_neg h1] at hd
          have h1 : (rNote (0, a)).2.1 = 0 := by simpa using h1
          have h2 : (rNote (0, a)).2.2 = [] := by
            by_cases h2 : (rNote (0, a)).2.2 = []
            · exact h2
            · rw [if_neg h2] at hd; simp at hd
          have := (henc (0, a) h1).2
          rw [h2, hn] at this
          simpa using this
      · rw [if_neg hd] at h; exact absurd h hd
    · rw [if_neg h] at ha
      exact absurd (congrArg Prod.snd ha) h
  rw [key a ha, key b hb]
theorem dec_bad (a : List UInt8) (h : (dec a).2 ≠ 0) : (dec a).1.kind = 0 := by
  unfold dec at h ⊢
  by_cases h1 : decErr (rNote (0, a)) = 0
  · rw [if_pos h1] at h; exact absurd rfl h
  · rw [if_neg h1]; rfl
theorem once_eq (a b : List UInt8) (ha : (dec a).2 = 0) (hb : (dec b).2 = 0) : ntEq (dec a).1 (dec b).1 = decide (a = b) := by
  rw [Bool.eq_iff_iff, ntEq_iff, decide_eq_true_iff]
  constructor
  · intro h
    exact dec_inj a b (dec a).1 (by rw [← ha]) (by rw [h, ← hb])
  · rintro rfl
    rfl
theorem dec_rows (a : List UInt8) : (dec a).1.rows.length ≤ 1048576 := by
  have := rNote_rows (0, a)
  unfold dec
  split
  · show (rNote (0, a)).1.rows.length ≤ _
    omega
  · simp [ntZero]

set_option maxRecDepth 100000 in
set_option maxHeartbeats 4000000 in
theorem once_walk (A B : Option Addr) (c d : Nat) (la lb : List UInt8) (w : World) (I : Nat → Prop) (hI : ∀ k, I k → k < w.heap.size) (ha : Bs w I A la) (hb : Bs w I B lb) (hc : la.length ≤ c) (hd : lb.length ≤ d)
    (ha63 : la.length ≤ 9223372036854775807) (hb63 : lb.length ≤ 9223372036854775807) (htab : Lib.TabIs Tryd.prog w "strings.asciiSpace" .u8 Lib.asciiSpaceTab) :
    Calls Tryd.prog 3 #[.slice A la.length c, .slice B lb.length d] w fun e w' => e = .returned (.bool true) ∧ Upd none_ w w' := by
  obtain ⟨ma, hma⟩ : ∃ m, min la.length 300 = m := ⟨_, rfl⟩
  obtain ⟨mb, hmb⟩ : ∃ m, min lb.length 300 = m := ⟨_, rfl⟩
  have p1 : ma ≤ 300 := by omega
  have p2 : mb ≤ 300 := by omega
  have p3 : ma ≤ c := by omega
  have p4 : mb ≤ d := by omega
  have e1 : min (la.length : Int) 300 = (ma : Int) := by omega
  have e2 : min (lb.length : Int) 300 = (mb : Int) := by omega
  have ha2 : Bs w I A (la.take ma) := Bs.take ha ma (by omega)
  have hb2 : Bs w I B (lb.take mb) := Bs.take hb mb (by omega)
  have l1 : (la.take ma).length = ma := by rw [List.length_take]; omega
  have l2 : (lb.take mb).length = mb := by rw [List.length_take]; omega
  clear hma hmb
  generalize la.take ma = xs at ha2 l1
  generalize lb.take mb = ys at hb2 l2
  subst l1
  subst l2
  have hbx := dec_bad xs
  have hby := dec_bad ys
  have heq := once_eq xs ys
  have hrx := dec_rows xs
  have hdx := fun w' h1 h2 => decode_any A c xs w' I h1 h2 p3 (by omega)
  have hdy := fun w' h1 h2 => decode_any B d ys w' I h1 h2 p4 (by omega)
  generalize dec xs = px at *
  generalize dec ys = py at *
  obtain ⟨nx, ex⟩ := px
  obtain ⟨ny, ey⟩ := py
  have HBX : Hid (ex ≠ 0 → nx.kind = 0) := hbx
  have HBY : Hid (ey ≠ 0 → ny.kind = 0) := hby
  have HEQ : Hid (ex = 0 → ey = 0 → ntEq nx ny = decide (xs = ys)) := heq
  have HRX : Hid (nx.rows.length ≤ 1048576) := hrx
  have HDX := Lib.hid hdx
  have HDY := Lib.hid hdy
  have HT := Lib.hid htab
  clear hbx hby heq hrx hdx hdy htab ha hb hc hd
  go_enter Tryd.func3, Tryd.ntmps3
  go_wp2_with fail
  go_quiet (fail)
  clear e1 e2 ha63 hb63
  go_upto_region 2 with fail
  refine wp_abs (fun w1 hw1 => ?_)
  have hU : Upd none_ w w1 := by rw [hw1]; exact (Upd.refl none_ w).drewN _
  clear hw1
  have hI1 : ∀ k, I k → k < w1.heap.size := fun k h => Nat.lt_of_lt_of_le (hI k h) hU.size
  go_wp2_with fail
  refine (HDX.out w1 hI1 (Rd.upd ha2 hU (fun _ h => h.elim))).mono ?_
  rintro e w2 ⟨A1, c1, rfl, hrx, hu2⟩
  have hX := Blk.new w2 30 (ntA nx A1 c1)
  replace hrx := Rd.alloc hrx (.cells (ntA nx A1 c1) 30)
  replace hU := (hU.trans hu2).alloc (.cells (ntA nx A1 c1) 30)
  go_upto_region 3 with fail
  refine wp_abs (fun w3 hw3 => ?_)
  rw [← hw3] at hX hrx hU
  clear hw3 hu2 hI1
  have hI1 : ∀ k, I k → k < w3.heap.size := fun k h => Nat.lt_of_lt_of_le (hI k h) hU.size
  go_wp2_with fail
  refine (HDY.out w3 hI1 (Rd.upd hb2 hU (fun _ h => h.elim))).mono ?_
  rintro e w4 ⟨B1, d1, rfl, hry, hu4⟩
  have hY := Blk.new w4 30 (ntA ny B1 d1)
  replace hX := (hX.upd hu4 (fun h => h)).alloc (.cells (ntA ny B1 d1) 30)
  replace hrx := Rd.alloc (Rd.upd hrx hu4 (fun _ h => h.elim)) (.cells (ntA ny B1 d1) 30)
  replace hry := Rd.alloc hry (.cells (ntA ny B1 d1) 30)
  replace hU := (hU.trans hu4).alloc (.cells (ntA ny B1 d1) 30)
  go_upto_region 4 with fail
  refine wp_abs (fun w5 hw5 => ?_)
  rw [← hw5] at hX hY hrx hry hU
  clear hw5 hu4 hI1 HDX HDY
  have HK := Lib.hid (known_any w5 (tab_upd HT.out hU))
  by_cases h1 : ex = 0
  · subst h1
    by_cases h2 : ey = 0
    · subst h2
      have HE : Hid (ntEq nx ny = decide (xs = ys)) := HEQ.out rfl rfl
      clear HBX HBY HEQ
      go_wp2_with fail
      refine HK.out.mono ?_
      rintro e w6 ⟨rfl, hu6⟩
      clear HK
      replace hX := hX.upd hu6 (fun h => h)
      replace hY := hY.upd hu6 (fun h => h)
      replace hU := hU.trans hu6
      have HQ := Lib.hid (equal_any nx ny A1 B1 c1 d1 HRX.out w6 _ _ (Rd.upd hrx hu6 (fun _ h => h.elim)) (Rd.upd hry hu6 (fun _ h => h.elim)))
      clear hrx hry hu6
      have c0 := hX.cell 0
      have c1 := hX.cell 1
      have c2 := hX.cell 2
      have c3 := hX.cell 3
      have c4 := hX.cell 4
      have c5 := hX.cell 5
      have c6 := hX.cell 6
      have c7 := hX.cell 7
      have c8 := hX.cell 8
      have c9 := hX.cell 9
      have c10 := hX.cell 10
      have c11 := hX.cell 11
      have c12 := hX.cell 12
      have c13 := hX.cell 13
      simp at c0 c1 c2 c3 c4 c5 c6 c7 c8 c9 c10 c11 c12 c13
      have f0 := hY.cell 0
      have f1 := hY.cell 1
      have f2 := hY.cell 2
      have f3 := hY.cell 3
      have f4 := hY.cell 4
      have f5 := hY.cell 5
      have f6 := hY.cell 6
      have f7 := hY.cell 7
      have f8 := hY.cell 8
      have f9 := hY.cell 9
      have f10 := hY.cell 10
      have f11 := hY.cell 11
      have f12 := hY.cell 12
      have f13 := hY.cell 13
      simp at f0 f1 f2 f3 f4 f5 f6 f7 f8 f9 f10 f11 f12 f13
      go_wp2_with fail
      refine HQ.out.mono ?_
      rintro e w7 ⟨rfl, hu7⟩
      replace hU := hU.trans hu7
      have HS := Lib.hid (same_any A B c d xs ys w7 I I (Rd.upd ha2 hU (fun _ h => h.elim)) (Rd.upd hb2 hU (fun _ h => h.elim)) (by omega))
      clear c0 f0 c1 f1 c2 f2 c3 f3 c4 f4 c5 f5 c6 f6 c7 f7 c8 f8 c9 f9 c10 f10 c11 f11 c12 f12 c13 f13 HQ hu7
      rw [HE.out]
      go_wp2_with fail
      refine HS.out.mono ?_
      rintro e w8 ⟨rfl, hd8⟩
      replace hU := hU.trans (hd8.upd none_)
      obtain ⟨v, hv⟩ : ∃ v, decide (xs = ys) = v := ⟨_, rfl⟩
      rw [hv]
      clear hv HE HS
      cases v
      · go_wp2
        go_ret
        exact ⟨rfl, hU⟩
      · go_wp2
        go_ret
        exact ⟨rfl, hU⟩
    · have k2 : ny.kind = 0 := HBY.out h2
      have h2b : (ey != 0) = true := by simp [h2]
      have h2c : (ey == 0) = false := by simp [h2]
      clear HBX HBY HEQ
      go_wp2_with fail
      refine HK.out.mono ?_
      rintro e w6 ⟨rfl, hu6⟩
      replace hY := hY.upd hu6 (fun h => h)
      have f0 := hY.cell 0
      simp at f0
      rw [k2] at f0
      go_wp2
      go_ret
      exact ⟨rfl, hU.trans hu6⟩
  · have k1 : nx.kind = 0 := HBX.out h1
    have h1b : (ex != 0) = true := by simp [h1]
    have h1c : (ex == 0) = false := by simp [h1]
    by_cases h2 : ey = 0
    · subst h2
      clear HBX HBY HEQ
      go_wp2_with fail
      refine HK.out.mono ?_
      rintro e w6 ⟨rfl, hu6⟩
      replace hX := hX.upd hu6 (fun h => h)
      have c0 := hX.cell 0
      simp at c0
      rw [k1] at c0
      go_wp2
      go_ret
      exact ⟨rfl, hU.trans hu6⟩
    · have k2 : ny.kind = 0 := HBY.out h2
      have h2c : (ey == 0) = false := by simp [h2]
      clear HBX HBY HEQ
      go_wp2_with fail
      refine HK.out.mono ?_
      rintro e w6 ⟨rfl, hu6⟩
      replace hX := hX.upd hu6 (fun h => h)
      replace hY := hY.upd hu6 (fun h => h)
      have c0 := hX.cell 0
      have f0 := hY.cell 0
      simp at c0 f0
      rw [k1] at c0
      rw [k2] at f0
      go_wp2
      go_ret
      exact ⟨rfl, hU.trans hu6⟩
end Go.Proofs.YtpffaenjphnfiaaDoor
