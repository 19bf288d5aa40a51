/- Rows that are read. -/
import Derived.Test.YtpffaenjphnfiaaDoorNoteC
namespace Go.Proofs.YtpffaenjphnfiaaDoor
open Go.RowKit
attribute [local go_sem] str_size str_toList str_get

theorem infoRow : (Tryd.prog.info? 49).map (fun i => (i.zero, i.size, i.bytes)) = some (some (.agg #[.string ⟨#[]⟩, .int .i64 0]), 2, 24) := by kernel_rfl

def rRowsLoop : Nat → RS → List Rw × RS
  | 0, s => ([], s)
  | k + 1, s =>
    let a := rText 12 s
    let b := rNumber a.2
    let c := rRowsLoop k b.2
    ((a.1, b.1) :: c.1, c.2)
def rRows (s : RS) : List Rw × RS := rRowsLoop (rCount 32 s).1.toNat (rCount 32 s).2
theorem rRowsLoop_len : ∀ (k : Nat) (s : RS), (rRowsLoop k s).1.length = k
  | 0, _ => rfl
  | k + 1, s => by simp [rRowsLoop, rRowsLoop_len k]
theorem rCount_le (most : Int) (s : RS) (hm : 0 ≤ most) : (rCount most s).1 ≤ most := by
  unfold rCount
  split
  · exact hm
  · split
    · exact hm
    · split
      · exact hm
      · split
        · exact hm
        · simpa using (by assumption : ¬ most < ((rWord s).1 : Int))

theorem owns_upd {w w' : World} {base g : Nat} {e : TypeId} {size n : Nat} {v : Value} {xs : List Value} (h : w.ownsRow base e size v n xs) (hu : Upd (· = g) w w') (hg : g < base) : w'.ownsRow base e size v n xs := by
  refine h.kept (row := some g) ⟨hu.os, hu.tape, hu.output, hu.size, fun k hk hne => hu.block k hk (fun e => hne (by rw [e]))⟩ ?_
  cases hv : v.ownBlock with
  | none => exact .inl rfl
  | some k =>
    right
    have := (h.lt k hv).1
    intro e
    simp at e
    omega

theorem owns_reads {w : World} {base : Nat} {e : TypeId} {size n : Nat} {v : Value} {xs : List Value} (h : w.ownsRow base e size v n xs) : ∃ A c, v = .slice A n c ∧ Rd w (fun k => base ≤ k) size A n xs := by
  rcases h.2 with ⟨rfl, rfl⟩ | ⟨g, cap, cur, rfl, hb, _⟩
  · exact ⟨none, 0, rfl, h.1, fun h => absurd h (by omega)⟩
  · exact ⟨some ⟨g, 0, none⟩, cap, rfl, h.1, fun _ => ⟨_, rfl, hb, h.cells rfl⟩⟩

theorem loop_step {n k : Nat} {s1 s : RS} {l : List Rw} {tx : List UInt8} {tr : RS} {mx : Int} {mr : RS} (hlt : k < n) (hT : rText 12 s = (tx, tr)) (hM : rNumber tr = (mx, mr))
    (hE : rRowsLoop n s1 = (l ++ (rRowsLoop (n - k) s).1, (rRowsLoop (n - k) s).2)) :
    rRowsLoop n s1 = ((l ++ [(tx, mx)]) ++ (rRowsLoop (n - (k + 1)) mr).1, (rRowsLoop (n - (k + 1)) mr).2) := by
  rw [hE]
  have e : n - k = n - (k + 1) + 1 := by omega
  rw [e]
  simp [rRowsLoop, hT, hM]

def GRel (n : Nat) (s1 : RS) (I : Nat → Prop) (g : Nat) (w : World) (V y : Value) (wr : World) : Prop :=
  ∃ (k : Nat) (l : List Rw) (s : RS), k ≤ n ∧ y = .int .i64 k ∧ l.length = k ∧ wr.ownsRow (w.heap.size + 1) 49 2 V k (rowsC l) ∧ RdrAt wr I g s ∧
    rRowsLoop n s1 = (l ++ (rRowsLoop (n - k) s).1, (rRowsLoop (n - k) s).2) ∧ Blk wr w.heap.size 40 #[.pointer (some ⟨g, 0, none⟩)] ∧ Upd (· = g) w wr

set_option maxRecDepth 100000 in
set_option maxHeartbeats 1600000 in
theorem rrows_any (g : Nat) (s : RS) (w : World) (I : Nat → Prop) (hI : ∀ k, I k → k < w.heap.size) (h : RdrAt w I g s) :
    Calls Tryd.prog 22 #[.agg #[.pointer (some ⟨g, 0, none⟩)]] w (RPost I g w (rRows s).2 (fun v w' => ∃ A c, v = .slice A (rRows s).1.length c ∧ Rws w' (fun k => w.heap.size ≤ k) A (rRows s).1)) := by
  have hg := h.lt
  obtain ⟨n, hn⟩ : ∃ n : Nat, (rCount 32 s).1 = n := ⟨(rCount 32 s).1.toNat, by have := rCount_nonneg 32 s; omega⟩
  have hn32 : n ≤ 32 := by have := rCount_le 32 s (by omega); omega
  obtain ⟨s1, hs1⟩ : ∃ s1, (rCount 32 s).2 = s1 := ⟨_, rfl⟩
  have hfin : rRows s = rRowsLoop n s1 := by simp [rRows, hn, hs1]
  have hct := fun w => count_any g s 32 w I
  rw [hn, hs1] at hct
  have HC := Lib.hid hct
  have HF := Lib.hid hfin
  clear hct hfin hn hs1
  rw [HF.out]
  obtain ⟨i0, hi, hz0, hz1, hz2⟩ := info_parts infoRow
  have hb0 := Blk.new w 40 #[.pointer (some ⟨g, 0, none⟩)]
  have h1 := h.upd ((Upd.refl none_ w).alloc (.cells #[.pointer (some ⟨g, 0, none⟩)] 40)) (fun h => h) (fun _ h => h.elim)
  have hU0 : Upd (· = g) w (w.alloc (.cells #[.pointer (some ⟨g, 0, none⟩)] 40)) := (Upd.refl _ w).alloc _
  go_enter Tryd.func22, Tryd.ntmps22
  go_wp2_with fail
  refine (HC.out _ h1).mono ?_
  rintro e w1 ⟨v, rfl, rfl, hr1, hu1⟩
  have hb1 := hb0.upd hu1 (by omega)
  have hU1 := hU0.trans hu1
  clear hb0 h1 hU0 hu1
  go_wp2
  go_loopw [3, 8] (fun V y wr => GRel n s1 I g w V y wr) (fun _ y _ => n - (intOf y).toNat)
  case atStart => exact ⟨0, [], s1, by omega, rfl, rfl, World.ownsRow_nil _ _ _ _, hr1, by simp, hb1, hU1⟩
  case round =>
    obtain ⟨k, l, s, hk, rfl, hlen, hown, hrd, heq, hb, hU⟩ := hrel
    have HE := Lib.hid heq
    have HL := Lib.hid hlen
    clear heq hlen
    by_cases hlt : k < n
    · have y0 := hb.cell 0
      simp at y0
      obtain ⟨t, ht⟩ : ∃ t, rText 12 s = t := ⟨_, rfl⟩
      have hct := text_any g s 12 wr I hrd
      rw [ht] at hct
      have HT := Lib.hid ht
      have HCT := Lib.hid hct
      clear ht hct
      go_wp2_with fail
      refine HCT.out.mono ?_
      rintro e w2 ⟨v, rfl, rfl, hr2, hu2⟩
      have hb2 := hb.upd hu2 (by omega)
      have y1 := hb2.cell 0
      simp at y1
      have hown2 := owns_upd hown hu2 (by omega)
      obtain ⟨m, hm⟩ : ∃ m, rNumber t.2 = m := ⟨_, rfl⟩
      have hct := number_any g t.2 w2 I hr2
      rw [hm] at hct
      have HM := Lib.hid hm
      have HCM := Lib.hid hct
      clear hm hct HCT
      go_wp2_with fail
      refine HCM.out.mono ?_
      rintro e w3 ⟨v, rfl, rfl, hr3, hu3⟩
      have hb3 := hb2.upd hu3 (by omega)
      have hown3 := owns_upd hown2 hu3 (by omega)
      have hU3 := (hU.trans hu2).trans hu3
      clear HCM y0 y1 hb2 hown2 hu2 hu3 hr2
      obtain ⟨tx, tr⟩ := t
      obtain ⟨mx, mr⟩ := m
      have q3 : k + 1 ≤ maxLen := by unfold maxLen; omega
      have q4 : (k + 1) * 24 ≤ 140737488355328 := by omega
      have q5 : w.heap.size + 1 ≤ (w3.alloc (.cells #[str tx, .int .i64 mx] 49)).heap.size := by have := hb3.lt; simp; omega
      have q1 := (World.news_of_block (cs := #[str tx, .int .i64 mx]) (heap_alloc_new w3 (.cells #[str tx, .int .i64 mx] 49)))
      go_wp2_with (at_builtin; refine wpList_append_lies _ rfl (.tmp 13) (.tmp 19) 25 rfl (w.heap.size + 1) 49 i0 _ 2 24 Tryd.underlying25 hi hz0 hz1 hz2 rfl (by decide) _ k (rowsC l) rfl (hown3.alloc _) ⟨w3.heap.size, 0, none⟩ 1 1 [str tx, .int .i64 mx] rfl rfl q1 ?c2 (by decide) q3 q4 q5 _ rfl ?_)
      case c2 => intro u hu; simp at hu; rcases hu with rfl | rfl <;> rfl
      intro g4 cap4 w4 hown4 hgrow hat hlt4
      have hU4 : Upd (· = g) w w4 := (hU3.alloc _).grown hgrow (fun k hk => .inr (by have := hown3.lt k hk; omega))
      have hUx : Upd (fun x => (u3).ownBlock = some x) w3 w4 := Upd.grown ((Upd.refl _ w3).alloc _) hgrow (fun k hk => .inl hk)
      have hb4 := hb3.upd hUx (fun e => by have := (hown3.lt _ e).1; omega)
      have hr4 := hr3.upd hUx (fun e => by have := (hown3.lt _ e).1; omega) (fun x e hx => by have := (hown3.lt _ e).1; have := hI x hx; omega)
      have HS := Lib.hid (loop_step hlt HT.out HM.out HE.out)
      rw [show [str tx, .int .i64 mx] = rowC (tx, mx) from rfl, ← rowsC_snoc] at hown4
      clear hUx hgrow hat q1 q3 q4 q5 hown3 hr3 hb3 HT HM HE hown hU hU3
      go_wp2
      go_roundw
      case rel => exact ⟨k + 1, l ++ [(tx, mx)], mr, by omega, by go_num, by simp [HL.out], hown4, hr4, HS.out, hb4, hU4⟩
      case measure => simp [intOf]; omega
    · have hkn : k = n := by omega
      have hfin : rRowsLoop n s1 = (l, s) := by rw [HE.out, hkn, Nat.sub_self]; simp [rRowsLoop]
      obtain ⟨A, c, rfl, hR⟩ := owns_reads hown
      have HX := Lib.hid hfin
      have HR : Hid (Rws wr (fun k => w.heap.size ≤ k) A l) := by
        rw [Hid, Rws, HL.out]
        exact Rd.more hR (fun _ h => by omega)
      clear hfin hown HE hR
      go_wp2
      go_ret
      rw [HX.out]
      exact ⟨_, rfl, ⟨A, c, by rw [HL.out]; rfl, HR.out⟩, hrd, hU⟩
end Go.Proofs.YtpffaenjphnfiaaDoor
