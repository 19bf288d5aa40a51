/- Writers. -/
import Derived.Deep.CutRange
import Derived.Lib.LazyBuf
import Derived.Test.YtpffaenjphnfiaaDoorRdrC
namespace Go.Proofs.YtpffaenjphnfiaaDoor
open Go.RowKit
attribute [local go_sem] str_size str_toList str_get

theorem owns_upd2 {w w' : World} {base : Nat} {S : Nat → Prop} {e : TypeId} {size n : Nat} {v : Value} {xs : List Value} (h : w.ownsRow base e size v n xs) (hu : Upd S w w') (hg : ∀ k, S k → k < base) : w'.ownsRow base e size v n xs := by
  refine ⟨h.1, ?_⟩
  rcases h.2 with h2 | ⟨g, cap, cur, e1, e2, e3, e4⟩
  · exact .inl h2
  · refine .inr ⟨g, cap, cur, e1, e2, ?_, e4⟩
    have hlt : g < w.heap.size := by
      rcases Nat.lt_or_ge g w.heap.size with hlt | hge
      · exact hlt
      · rw [Array.getElem?_eq_none hge] at e3; cases e3
    rw [hu.block g hlt (fun hS => by have := hg g hS; omega)]
    exact e3
theorem owns_reads2 {w : World} {base : Nat} {e : TypeId} {size n : Nat} {v : Value} {xs : List Value} (h : w.ownsRow base e size v n xs) : ∃ A c, v = .slice A n c ∧ n ≤ c ∧ Rd w (fun k => base ≤ k) size A n xs := by
  rcases h.2 with ⟨rfl, rfl⟩ | ⟨g, cap, cur, rfl, hb, h3⟩
  · exact ⟨none, 0, rfl, Nat.le_refl _, h.1, fun h => absurd h (by omega)⟩
  · exact ⟨some ⟨g, 0, none⟩, cap, rfl, h3.2.1, h.1, fun _ => ⟨_, rfl, hb, h.cells rfl⟩⟩

theorem infoByte : (Tryd.prog.info? 5).map (fun i => (i.zero, i.size, i.bytes)) = some (some (.int .u8 0), 1, 1) := by kernel_rfl

def WrAt (w : World) (B g : Nat) (s : RS) : Prop :=
  ∃ V, Blk w g 72 #[.int .i64 s.1, V] ∧ w.ownsRow B 5 1 V s.2.length (s.2.map bv) ∧ s.2.length ≤ 1048576 ∧ g < B
theorem WrAt.upd {w w' : World} {B g : Nat} {s : RS} {S : Nat → Prop} (h : WrAt w B g s) (hu : Upd S w w') (hg : ¬ S g) (hS : ∀ k, S k → k < B) : WrAt w' B g s := by
  obtain ⟨V, h1, h2, h3, h4⟩ := h
  exact ⟨V, h1.upd hu hg, owns_upd2 h2 hu hS, h3, h4⟩
def wPut (xs : List UInt8) (s : RS) : RS := if s.1 ≠ 0 then s else if 1048576 < s.2.length + xs.length then (2, s.2) else (0, s.2 ++ xs)

set_option maxRecDepth 100000 in
set_option maxHeartbeats 1000000 in
theorem put_any (g B : Nat) (s : RS) (ad : Addr) (c : Nat) (xs : List UInt8) (w : World) (I : Nat → Prop) (h : WrAt w B g s) (hB : B ≤ w.heap.size) (hA : Bs w I (some ad) xs) (hn : 0 < xs.length) (hl : xs.length ≤ 140737488355328) :
    Calls Tryd.prog 50 #[.pointer (some ⟨g, 0, none⟩), .slice (some ad) xs.length c] w fun e w' => e = .returned (.pointer (some ⟨g, 0, none⟩)) ∧ WrAt w' B g (wPut xs s) ∧ Upd (fun k => k = g ∨ B ≤ k) w w' := by
  obtain ⟨i0, hi, hz0, hz1, hz2⟩ := info_parts infoByte
  obtain ⟨V, hb, hown, hle, hgB⟩ := h
  obtain ⟨A, cp, rfl, hcp, hrd⟩ := owns_reads2 hown
  obtain ⟨e, bs⟩ := s
  simp only at hb hown hle hrd
  have x0 := hb.cell 0
  have x1 := hb.cell 1
  have fx0 := hb.frozen 0
  have fx1 := hb.frozen 1
  simp at x0 x1
  by_cases he : e = 0
  · subst he
    by_cases hlong : 1048576 < bs.length + xs.length
    · have hli : (1048576 : Int) < (bs.length : Int) + (xs.length : Int) := by omega
      have hfin : wPut xs (0, bs) = (2, bs) := by simp [wPut, hlong]
      rw [hfin]
      clear hfin
      go_enter Tryd.func50, Tryd.ntmps50
      have z0 : (w.setCell ⟨g, 0, none⟩ (.int .i64 2)).cell? ⟨g, 0, none⟩ = some (.int .i64 2) := (hb.set_ 0 _).cell 0
      have hown2 := owns_upd2 hown (Upd.set1 w g 0 (.int .i64 2)) (by rintro k rfl; exact hgB)
      have hb2 := hb.set_ 0 (.int .i64 2)
      simp at hb2
      go_wp2_with (first | (go_at_call 40; refine (note_zero _ _ _ _ (by assumption) (by assumption)).mono ?_; rintro e w' ⟨rfl, rfl⟩) | (go_at_call 24; refine (ok_any _ _ _ _ (by first | assumption | exact y0 _)).mono ?_; rintro e w' ⟨rfl, rfl⟩))
      go_ret
      exact ⟨rfl, ⟨_, hb2, hown2, hle, hgB⟩, (Upd.refl _ w).setCell (p := ⟨g, 0, none⟩) (.inl (.inl rfl)) _⟩
    · have hli : ¬ (1048576 : Int) < (bs.length : Int) + (xs.length : Int) := by omega
      have hfin : wPut xs (0, bs) = (0, bs ++ xs) := by simp [wPut, hlong]
      rw [hfin]
      clear hfin
      go_enter Tryd.func50, Tryd.ntmps50
      obtain ⟨ad2, e1, hIb, hcells⟩ := hA.2 hn
      injection e1 with e1
      subst e1
      have q0 : ∀ u ∈ xs.map bv, u.oneCell' = true := by
        intro u hu
        obtain ⟨b, _, rfl⟩ := List.mem_map.1 hu
        rfl
      have q3 : bs.length + xs.length ≤ maxLen := by unfold maxLen; omega
      have q4 : (bs.length + xs.length) * 1 ≤ 140737488355328 := by omega
      have q5 : (xs.map bv).length = xs.length * 1 := by simp
      have HC := Lib.hid hcells
      have HO := Lib.hid hown
      clear hcells hown hrd
      go_wp2_with (first | (go_at_call 24; refine (ok_any _ _ _ _ (by first | assumption | exact y0 _)).mono ?_; rintro e w' ⟨rfl, rfl⟩) | (at_builtin; refine wpList_append_lies _ rfl (.tmp 28) (.tmp 29) 22 rfl B 5 i0 _ 1 1 Tryd.underlying22 hi hz0 hz1 hz2 rfl (by decide) _ bs.length (bs.map bv) rfl HO.out ad xs.length c (xs.map bv) rfl q5 HC.out q0 hn q3 q4 hB _ rfl ?_))
      intro g4 cap4 w4 hown4 hgrow hat hlt4
      have hgr : w.grownBy w4 (Value.slice A bs.length cp).ownBlock := hgrow
      have hUx : Upd (fun x => (Value.slice A bs.length cp).ownBlock = some x) w w4 := Upd.grown (Upd.refl _ w) hgr (fun k hk => .inl hk)
      have hge : ∀ k, (Value.slice A bs.length cp).ownBlock = some k → B ≤ k := fun k hk => (HO.out.lt k hk).1
      clear hgrow hat hgr
      have hb4 := hb.upd hUx (fun e => by have := hge _ e; omega)
      have hU4 : Upd (fun k => k = g ∨ B ≤ k) w w4 := hUx.mono (fun k hk => .inr (hge k hk))
      have y0 := hb4.cell 0
      have y1 := hb4.cell 1
      have fy1 := hb4.frozen 1
      simp at y0 y1
      have hb5 := hb4.set_ 1 (.slice (some ⟨g4, 0, none⟩) (bs.length + xs.length) cap4)
      simp at hb5
      have hown5 := owns_upd2 hown4 (Upd.set1 w4 g 1 (.slice (some ⟨g4, 0, none⟩) (bs.length + xs.length) cap4)) (by rintro k rfl; exact hgB)
      rw [← List.map_append] at hown5
      have hU5 := hU4.setCell (p := ⟨g, 1, none⟩) (.inl (.inl rfl)) (.slice (some ⟨g4, 0, none⟩) (bs.length + xs.length) cap4)
      clear hUx hge hb4 hown4 hU4 HO HC q0 q3 q4 q5 x0 x1 fx0 fx1
      go_wp2
      go_ret
      refine ⟨rfl, ⟨_, hb5, ?_, ?_, hgB⟩, hU5⟩
      · simpa using hown5
      · simp; omega
  · have hx : (e == 0) = false := by simp [he]
    have hfin : wPut xs (e, bs) = (e, bs) := by simp [wPut, he]
    rw [hfin]
    clear he hfin
    by_cases hlong : 1048576 < bs.length + xs.length
    · have hli : (1048576 : Int) < (bs.length : Int) + (xs.length : Int) := by omega
      go_enter Tryd.func50, Tryd.ntmps50
      go_wp2_with (first | (go_at_call 24; refine (ok_any _ _ _ _ (by first | assumption | exact y0 _)).mono ?_; rintro e w' ⟨rfl, rfl⟩) | (go_at_call 40; refine (note_other _ _ _ _ _ (by assumption) (by assumption)).mono ?_; rintro e w' ⟨rfl, rfl⟩))
      go_ret
      exact ⟨rfl, ⟨_, hb, hown, hle, hgB⟩, Upd.refl _ _⟩
    · have hli : ¬ (1048576 : Int) < (bs.length : Int) + (xs.length : Int) := by omega
      go_enter Tryd.func50, Tryd.ntmps50
      go_wp2_with (go_at_call 24; refine (ok_any _ _ _ _ (by first | assumption | exact y0 _)).mono ?_; rintro e w' ⟨rfl, rfl⟩)
      go_ret
      exact ⟨rfl, ⟨_, hb, hown, hle, hgB⟩, Upd.refl _ _⟩

set_option maxRecDepth 100000 in
set_option maxHeartbeats 1000000 in
theorem WByte_any (g B : Nat) (s : RS) (b : UInt8) (w : World) (h : WrAt w B g s) (hB : B ≤ w.heap.size) :
    Calls Tryd.prog 31 #[.pointer (some ⟨g, 0, none⟩), .int .u8 (b.toNat : Int)] w fun e w' => e = .returned (.pointer (some ⟨g, 0, none⟩)) ∧ WrAt w' B g (wPut [b] s) ∧ Upd (fun k => k = g ∨ B ≤ k) w w' := by
  have hU : Upd none_ w (w.alloc (.cells #[.int .u8 (b.toNat : Int)] 5)) := (Upd.refl none_ w).alloc _
  have h1 := h.upd hU (fun h => h) (fun _ h => h.elim)
  have hA : Bs (w.alloc (.cells #[.int .u8 (b.toNat : Int)] 5)) (· = w.heap.size) (some ⟨w.heap.size, 0, none⟩) [b] :=
    ⟨rfl, fun _ => ⟨_, rfl, rfl, World.news_of_block (cs := #[.int .u8 (b.toNat : Int)]) (heap_alloc_new w (.cells #[.int .u8 (b.toNat : Int)] 5))⟩⟩
  have hct := fun c => put_any g B s ⟨w.heap.size, 0, none⟩ c [b] _ _ h1 (by simp; omega) hA (by simp) (by simp)
  go_enter Tryd.func31, Tryd.ntmps31
  go_wp2_with fail
  refine (hct _).mono ?_
  rintro e w2 ⟨rfl, h2, hu⟩
  go_wp2
  go_ret
  exact ⟨rfl, h2, (hU.mono (fun _ h => h.elim)).trans hu⟩

set_option maxRecDepth 100000 in
set_option maxHeartbeats 1000000 in
theorem clone_any (A : Option Addr) (c : Nat) (xs : List UInt8) (w : World) (I : Nat → Prop) (hA : Bs w I A xs) (hl : xs.length ≤ 140737488355328) :
    Calls Tryd.prog 53 #[.slice A xs.length c] w fun e w' => ∃ A' c', e = .returned (.slice A' xs.length c') ∧ xs.length ≤ c' ∧ Bs w' (fun k => w.heap.size ≤ k) A' xs ∧ Upd none_ w w' := by
  obtain ⟨i0, hi, hz0, hz1, hz2⟩ := info_parts infoByte
  cases A with
  | none =>
    have : xs = [] := by
      cases xs with
      | nil => rfl
      | cons b t => obtain ⟨ad, h, _⟩ := hA.2 (by simp); cases h
    subst this
    have hq : ∀ W : World, (binOp .eql 22 (.slice none 0 c) (.slice none 0 0)).run Tryd.prog W = .ok (.bool true) W := fun W => run_eql_slice_nil W 22 5 none 0 c Tryd.underlying22
    go_enter Tryd.func53, Tryd.ntmps53
    go_wp2
    go_ret
    exact ⟨_, _, rfl, by simp, Rd.nil_, Upd.refl _ _⟩
  | some ad =>
    have hown : (w.alloc (.cells #[] 5)).ownsRow w.heap.size 5 1 (.slice (some ⟨w.heap.size, 0, none⟩) 0 0) 0 [] := World.ownsRow_made (size := 1) w #[] 0 (Nat.le_refl _) (by unfold maxLen; omega) (by simp)
    have hc : ∀ j u, (xs.map bv)[j]? = some u → (w.alloc (.cells #[] 5)).cell? (ad.add j) = some u := by
      intro j u hu
      have hlt : 0 < xs.length := by
        cases xs with
        | nil => simp at hu
        | cons b t => simp
      obtain ⟨ad2, e1, _, hcells⟩ := (Rd.alloc hA (.cells #[] 5)).2 hlt
      injection e1 with e1
      subst e1
      exact hcells j u hu
    have q0 : ∀ u ∈ xs.map bv, u.oneCell' = true := by
      intro u hu
      obtain ⟨b, _, rfl⟩ := List.mem_map.1 hu
      rfl
    have q3 : 0 + xs.length ≤ maxLen := by unfold maxLen; omega
    have q4 : (0 + xs.length) * 1 ≤ 140737488355328 := by omega
    have q5 : (xs.map bv).length = xs.length * 1 := by simp
    have q6 : w.heap.size ≤ (w.alloc (.cells #[] 5)).heap.size := by simp
    have hU : Upd none_ w (w.alloc (.cells #[] 5)) := (Upd.refl none_ w).alloc _
    have HC := Lib.hid hc
    have HO := Lib.hid hown
    clear hc hown
    have hq : ∀ W : World, (binOp .eql 22 (.slice (some ad) xs.length c) (.slice none 0 0)).run Tryd.prog W = .ok (.bool false) W := fun W => run_eql_slice_nil W 22 5 (some ad) xs.length c Tryd.underlying22
    go_enter Tryd.func53, Tryd.ntmps53
    go_wp2_with (at_builtin; refine wpList_append_own _ rfl (.tmp 5) (.tmp 6) 22 rfl w.heap.size 5 i0 _ 1 1 Tryd.underlying22 hi hz0 hz1 hz2 rfl (by decide) _ 0 [] rfl HO.out ad xs.length c (xs.map bv) rfl q5 HC.out q0 q3 q4 q6 ?_)
    intro v w4 hown4 hgrow _
    obtain ⟨A', c', rfl, hcp, hrd⟩ := owns_reads2 hown4
    have hU4 : Upd none_ w w4 := Upd.grown hU hgrow (fun k hk => .inr (by have hk2 : some w.heap.size = some k := hk; injection hk2 with hk2; omega))
    clear hown4 hgrow HC HO q0 q3 q4 q5 q6
    go_wp2
    go_ret
    exact ⟨A', c', rfl, hcp, hrd, hU4⟩

def wDone (s : RS) : List UInt8 × Int := if s.1 ≠ 0 then ([], s.1) else (s.2, 0)
set_option maxRecDepth 100000 in
set_option maxHeartbeats 1000000 in
theorem WDone_any (g B : Nat) (s : RS) (w : World) (h : WrAt w B g s) :
    Calls Tryd.prog 37 #[.pointer (some ⟨g, 0, none⟩)] w fun e w' => ∃ A' c', e = .returned (.tuple #[.slice A' (wDone s).1.length c', .int .i64 (wDone s).2]) ∧ (wDone s).1.length ≤ c' ∧ Bs w' (fun k => w.heap.size ≤ k) A' (wDone s).1 ∧ Upd none_ w w' := by
  obtain ⟨V, hb, hown, hle, hgB⟩ := h
  obtain ⟨A, cp, rfl, hcp, hrd⟩ := owns_reads2 hown
  obtain ⟨e, bs⟩ := s
  simp only at hb hown hle hrd
  have x0 := hb.cell 0
  have x1 := hb.cell 1
  simp at x0 x1
  by_cases he : e = 0
  · subst he
    have e1 : wDone (0, bs) = (bs, 0) := by simp [wDone]
    rw [e1]
    have HCl := Lib.hid (clone_any A cp bs w _ hrd (by omega))
    clear hown hrd e1
    go_enter Tryd.func37, Tryd.ntmps37
    go_wp2_with (first | (go_at_call 24; refine (ok_any _ _ _ _ (by first | assumption | exact y0 _)).mono ?_; rintro e w' ⟨rfl, rfl⟩) | fail)
    refine HCl.out.mono ?_
    rintro e w2 ⟨A', c', rfl, h1, h2, h3⟩
    go_wp2
    go_ret2
    exact ⟨A', c', rfl, h1, h2, h3⟩
  · have hx : (e == 0) = false := by simp [he]
    have e1 : wDone (e, bs) = ([], e) := by simp [wDone, he]
    rw [e1]
    clear he e1 hown hrd
    go_enter Tryd.func37, Tryd.ntmps37
    go_wp2_with (first | (go_at_call 24; refine (ok_any _ _ _ _ (by first | assumption | exact y0 _)).mono ?_; rintro e w' ⟨rfl, rfl⟩) | fail)
    go_quiet (fail)
    go_wp2
    go_ret2
    exact ⟨none, 0, rfl, by simp, Rd.nil_, (Upd.refl _ w).drewN _⟩
end Go.Proofs.YtpffaenjphnfiaaDoor
