/- The check digit: a range over a function. -/
import Derived.RangeFuncNested
import Derived.RangeFuncBound
import Derived.RangeFuncCalls
import Derived.RangeFuncLeaves
import Derived.RangeFuncFrom
import Derived.Shelf.Abstract
import Derived.Shelf.RegionOpen
import Derived.OwnWalkIn
import Derived.TacticsInMore
import Derived.LoopNIn
import Derived.LoopIn
import Derived.Test.YtpffaenjphnfiaaDoorIdent
namespace Go.Proofs.YtpffaenjphnfiaaDoor
open Go.RowKit Go.Shelf

attribute [local go_sem] Oper.semAt_some str_size str_toList str_get

/-- The digits that a byte makes. -/
def dg (c : UInt8) : List Int := if isDigit (c.toNat : Int) then [(c.toNat : Int) - 48] else [((c.toNat : Int) + 191) % 256 % 10, (((c.toNat : Int) + 191) % 256 + 10) / 10]
def digs : List UInt8 → List Int
  | [] => []
  | c :: t => dg c ++ digs t
theorem digs_append (a b : List UInt8) : digs (a ++ b) = digs a ++ digs b := by
  induction a with
  | nil => rfl
  | cons c t ih => simp [digs, ih]
theorem rev_head (l dn rest : List UInt8) (c : UInt8) (h : l.reverse = dn ++ c :: rest) : l[rest.length]? = some c := by
  have e : l = (dn ++ c :: rest).reverse := by rw [← h, List.reverse_reverse]
  rw [e]
  simp [List.reverse_append]

theorem isDigit_bd {c : Int} (h : isDigit c = true) : 48 ≤ c ∧ c ≤ 57 := by simpa [isDigit] using h
theorem u8_sub65 (c : Nat) : IntKind.u8.wrap ((c : Int) - 65) = ((c : Int) + 191) % 256 := by rw [IntKind.wrap_u8]; omega

/-- Block B is as it was. -/
def KpB (B : Nat) (A C : World) : Prop := C.heap[B]? = A.heap[B]?
theorem KpB.refl (B : Nat) (A : World) : KpB B A A := rfl
theorem KpB.trans {B : Nat} {A C D : World} (h : KpB B A C) (k : KpB B C D) : KpB B A D := Eq.trans k h
theorem KpB.cell {B : Nat} {A C : World} (h : KpB B A C) (o : Nat) : C.cell? ⟨B, o, none⟩ = A.cell? ⟨B, o, none⟩ := World.cell?_of_block (w := A) (a := ⟨B, o, none⟩) h
theorem KpB.put {B : Nat} {w : World} (hB : B < w.heap.size) (W : World) (l : Nat) (o o' : Obj) (hl : w.heap.size ≤ l) (_ : W.heap[l]? = some o) (_ : o.isCells = false) (_ : o.isWalk = false) : KpB B W (W.putObj l o') := by
  have hb := (grownBy_putObj' W l o').block B
  rcases Nat.lt_or_ge B W.heap.size with h | h
  · exact hb h (by intro e; injection e with e; omega)
  · have e1 : (W.putObj l o').heap.size = W.heap.size := by simp [World.putObj]
    unfold KpB
    rw [Array.getElem?_eq_none h, Array.getElem?_eq_none (by rw [e1]; exact h)]
theorem KpB.setCell {B : Nat} (W : World) (a : Addr) (u : Value) (h : B ≠ a.block) : KpB B W (W.setCell a u) := Below.heap_setCell W a u B h

def DRel (l : List UInt8) (n₀ : Nat) (J : List Int → World → Prop) (W : World) (y : Value) (wr : World) : Prop :=
  ∃ dn rest, l.reverse = dn ++ rest ∧ y = .int .i64 ((rest.length : Int) - 1) ∧ J (digs dn) wr ∧ KpB n₀ W wr

set_option maxRecDepth 100000 in
set_option maxHeartbeats 1000000 in
theorem digits1_in (n : Nat) (hn : 2 ≤ n) (lp Bn : Nat) (l : List UInt8) (hl : l.length ≤ 140737488355328) (J Jx : List Int → World → Prop)
    (hY : ∀ pre x W, J pre W → pre.length < (digs l.reverse).length → YieldAt Fence.wide (n - 1) Tryd.prog lp #[.int .i64 x] W fun e W' =>
      (e = .returned (.bool true) ∧ J (pre ++ [x]) W' ∧ KpB Bn W W') ∨ (e = .returned (.bool false) ∧ Jx (pre ++ [x]) W'))
    (W : World) (hBn : W.cell? ⟨Bn, 0, none⟩ = some (.string ⟨l.toArray⟩)) (h0 : J [] W) :
    CallsIn Fence.wide n Tryd.prog 67 #[.func (.yield lp) #[] #[], .pointer (some ⟨Bn, 0, none⟩)] W fun e W' => (∃ v, e = .returned v) ∧
      ((∃ ys, ys = digs l.reverse ∧ J ys W') ∨ (∃ pre, pre <+: digs l.reverse ∧ Jx pre W')) := by
  refine callsIn_of_wp Tryd.func67 rfl trivial ?_ rfl; simp only [Tryd.ntmps67, List.size_toArray, List.length_cons, List.length_nil, Nat.reduceAdd, Nat.reduceSub, Array.replicate_succ, Array.replicate_zero, List.push_toArray, List.append_toArray, List.nil_append, List.cons_append]
  gi_wp2
  gi_loopw [3] (fun y wr => DRel l Bn J W y wr) (fun y _ => (intOf y + 1).toNat)
  case atStart => exact ⟨[], l.reverse, rfl, by simp, h0, KpB.refl _ _⟩
  case round =>
    obtain ⟨dn, rest, hx, rfl, hJ, hnx⟩ := hrel
    have hcx : wr.cell? ⟨Bn, 0, none⟩ = some (.string ⟨l.toArray⟩) := (hnx.cell 0).trans hBn
    have HX := Lib.hid hx
    cases rest with
    | nil =>
      clear hx
      gi_wp2
      go_end0
      exact ⟨⟨_, rfl⟩, .inl ⟨_, by rw [HX.out, List.append_nil], hJ⟩⟩
    | cons c rest =>
      have hat := rev_head l dn rest c hx
      have hlen : dn.length + (rest.length + 1) = l.length := by
        have := congrArg List.length hx
        simp at this
        omega
      clear hx
      have hlt : rest.length < l.length := by omega
      rw [List.getElem?_eq_getElem hlt] at hat
      have hat2 : l[rest.length] = c := Option.some.inj hat
      have hc2 : c.toNat < 256 := UInt8.toNat_lt _
      have HL := Lib.hid hlen; clear hlen hat
      have hle : rest.length < 140737488355328 := by omega
      obtain ⟨b, hb⟩ : ∃ b, isDigit (c.toNat : Int) = b := ⟨_, rfl⟩
      cases b
      · have hd : dg c = [((c.toNat : Int) + 191) % 256 % 10, (((c.toNat : Int) + 191) % 256 + 10) / 10] := by simp [dg, hb]
        have h65 := u8_sub65 c.toNat
        obtain ⟨fn, tmps, assign, body, hy, hR⟩ := hY _ (((c.toNat : Int) + 191) % 256 % 10) wr hJ (by rw [HX.out, digs_append, digs, hd]; simp)
        have HD := Lib.hid hd; clear hd
        gi_wp2_with (refine ⟨trivial, fun _ => by omega, ?_⟩; gi_at_call 56; refine (callsIn_wide.2 (digit_any _ _)).mono ?_; rintro e w' ⟨rfl, rfl⟩)
        refine ⟨fun _ => by omega, hR.mono ?_⟩
        rintro e W3 (⟨rfl, hJ3, hk3⟩ | ⟨rfl, hJx3⟩)
        · obtain ⟨fn', tmps', assign', body', hy', hR'⟩ := hY _ ((((c.toNat : Int) + 191) % 256 + 10) / 10) W3 hJ3 (by rw [HX.out, digs_append, digs, HD.out]; simp)
          gi_wp2_with (refine ⟨trivial, fun _ => by omega, ?_⟩; gi_at_call 56; refine (callsIn_wide.2 (digit_any _ _)).mono ?_; rintro e w' ⟨rfl, rfl⟩)
          refine ⟨fun _ => by omega, hR'.mono ?_⟩
          rintro e W4 (⟨rfl, hJ4, hk4⟩ | ⟨rfl, hJx4⟩)
          · gi_wp2
            go_roundw
            case rel => exact ⟨dn ++ [c], rest, by rw [HX.out]; simp, by simp, by rw [digs_append, digs, digs, HD.out]; simpa using hJ4, (hnx.trans hk3).trans hk4⟩
            case measure => simp [intOf]
          · gi_wp2
            refine bodyPost_ret (results_none rfl _ _ _) rfl ?_
            exact ⟨⟨_, rfl⟩, .inr ⟨_, by rw [HX.out, digs_append, digs, HD.out]; exact ⟨digs rest, by simp⟩, hJx4⟩⟩
        · gi_wp2
          all_goals
            refine ⟨fun _ h => (by cases h), ?_⟩
            gi_wp2
            refine bodyPost_ret (results_none rfl _ _ _) rfl ?_
            exact ⟨⟨_, rfl⟩, .inr ⟨_, by rw [HX.out, digs_append, digs, HD.out]; exact ⟨(((c.toNat : Int) + 191) % 256 + 10) / 10 :: digs rest, by simp⟩, hJx3⟩⟩
      · have hbd := isDigit_bd hb
        have hd : dg c = [(c.toNat : Int) - 48] := by simp [dg, hb]
        obtain ⟨fn, tmps, assign, body, hy, hR⟩ := hY _ ((c.toNat : Int) - 48) wr hJ (by rw [HX.out, digs_append, digs, hd]; simp)
        gi_wp2_with (refine ⟨trivial, fun _ => by omega, ?_⟩; gi_at_call 56; refine (callsIn_wide.2 (digit_any _ _)).mono ?_; rintro e w' ⟨rfl, rfl⟩)
        refine ⟨fun _ => by omega, hR.mono ?_⟩
        rintro e W3 (⟨rfl, hJ3, hk3⟩ | ⟨rfl, hJx3⟩)
        · gi_wp2
          go_roundw
          case rel => exact ⟨dn ++ [c], rest, by rw [HX.out]; simp, by simp, by rw [digs_append, digs, digs, hd]; exact hJ3, hnx.trans hk3⟩
          case measure => simp [intOf]
        · gi_wp2
          refine bodyPost_ret (results_none rfl _ _ _) rfl ?_
          exact ⟨⟨_, rfl⟩, .inr ⟨_, by rw [HX.out, digs_append, digs, hd, ← List.append_assoc]; exact List.prefix_append _ _, hJx3⟩⟩

set_option maxHeartbeats 1000000 in
theorem digits_any (l : List UInt8) (w : World) :
    Calls Tryd.prog 63 #[.string ⟨l.toArray⟩] w fun e w' => e = .returned (.func (.func 67) #[] #[.pointer (some ⟨w.heap.size, 0, none⟩)]) ∧ w.alloc (.cells #[.string ⟨l.toArray⟩] 9) = w' := by
  go_enter Tryd.func63, Tryd.ntmps63
  go_wp2
  go_ret
  exact ⟨rfl, rfl⟩

theorem digits_stops (n : Nat) (hn : 2 ≤ n) (Bn : Nat) (l : List UInt8) (hl : l.length ≤ 140737488355328) (w : World) (hB : Bn < w.heap.size) (hc : w.cell? ⟨Bn, 0, none⟩ = some (.string ⟨l.toArray⟩)) :
    SeqStopsK Fence.wide n Tryd.prog 67 #[.pointer (some ⟨Bn, 0, none⟩)] (fun x : Int => #[Value.int .i64 x]) (KpB Bn) (fun ys => ys = digs l.reverse) (fun pre => pre <+: digs l.reverse) (digs l.reverse).length w := fun lp J Jx W hW _ _ hY h0 =>
  digits1_in n hn lp Bn l hl J Jx hY W ((hW.cell (p := ⟨Bn, 0, none⟩) hB).trans hc) h0

theorem cell_of_box_l {W : World} {B : Nat} {v : Value} {t : TypeId} (h : W.heap[B]? = some (.cells #[v] t (0, 0))) : W.cell? ⟨B, 0, none⟩ = some v ∧ W.frozen? ⟨B, 0, none⟩ = false := by
  constructor <;> simp [World.cell?, World.frozen?, h]
/-- A cell that holds a whole number, and may be written. -/
def IntCell (W : World) (B : Nat) (s : Int) : Prop := W.cell? ⟨B, 0, none⟩ = some (.int .i64 s) ∧ W.frozen? ⟨B, 0, none⟩ = false
theorem IntCell.new (W : World) (s : Int) (t : TypeId) : IntCell (W.alloc (.cells #[.int .i64 s] t)) W.heap.size s :=
  ⟨(cell_of_box_l (heap_alloc_new W _)).1, (cell_of_box_l (heap_alloc_new W _)).2⟩
theorem IntCell.kept {W W' : World} {B : Nat} {s : Int} {row : Option Nat} (h : IntCell W B s) (hg : W.grownBy W' row) (hr : ∀ r, row = some r → ∃ o : Obj, W.heap[r]? = some o ∧ o.isCells = false) : IntCell W' B s :=
  ⟨cell_kept h.1 hg hr, (frozen_kept h.1 hg hr).trans h.2⟩
theorem IntCell.alloc {W : World} {B : Nat} {s : Int} (h : IntCell W B s) (o : Obj) : IntCell (W.alloc o) B s := h.kept (World.grownBy_alloc W o none) (fun r e => by cases e)
theorem IntCell.same {W : World} {B : Nat} {s : Int} (h : IntCell W B s) (x : Int) : IntCell (W.setCell ⟨B, 0, none⟩ (.int .i64 x)) B x :=
  ⟨World.cell?_setCell_same' _ _ _ (by rw [h.1]; rfl), by rw [World.frozen?_setCell]; exact h.2⟩
theorem IntCell.other {W : World} {B C : Nat} {s : Int} (h : IntCell W B s) (hne : C ≠ B) (u : Value) : IntCell (W.setCell ⟨C, 0, none⟩ u) B s :=
  ⟨(World.cell?_setCell_other W ⟨C, 0, none⟩ ⟨B, 0, none⟩ _ (by intro e; injection e with e; exact hne e)).trans h.1, by rw [World.frozen?_setCell]; exact h.2⟩

/-- One digit more: doubled at every other place. -/
def dbl (i d : Int) : Int := if (i.tmod 2 == 0) = true then wrap64 (d * 2) else d
def stepD (p : Int × Int) (d : Int) : Int × Int := (wrap64 (p.1 + wrap64 (wrap64 ((dbl p.2 d).tdiv 10) + (dbl p.2 d).tmod 10)), wrap64 (p.2 + 1))
def sumD (l : List Int) : Int × Int := l.foldl stepD (0, 0)
theorem sumD_snoc (pre : List Int) (x : Int) : sumD (pre ++ [x]) = stepD (sumD pre) x := by simp [sumD]
def checkOf (s : Int) : Int := IntKind.u8.wrap (wrap64 (48 + (wrap64 (10 - s.tmod 10)).tmod 10))

set_option maxRecDepth 100000 in
set_option maxHeartbeats 2000000 in
theorem digit_in (l : List UInt8) (w : World) (hb : bodyOf l = true) :
    CallsIn Fence.wide 5 Tryd.prog 57 #[.string ⟨l.toArray⟩] w fun e W' => e = .returned (.tuple #[.int .u8 (checkOf (sumD (digs l.reverse)).1), .int .i64 0]) ∧ Below w.heap.size w W' := by
  have hl : l.length ≤ 11 := by
    unfold bodyOf at hb
    simp at hb
    omega
  refine callsIn_of_wp_marks Tryd.func57 rfl trivial ?_ rfl; simp only [Tryd.ntmps57, List.size_toArray, List.length_cons, List.length_nil, Nat.reduceAdd, Nat.reduceSub, Array.replicate_succ, Array.replicate_zero, List.push_toArray, List.append_toArray, List.nil_append, List.cons_append]
  gi_wp2_with (refine ⟨trivial, ?_⟩; gi_at_call 62; refine (callsIn_wide.2 (body_any l w)).mono ?_; rintro e w1 ⟨rfl, hu⟩)
  refine ⟨trivial, (callsIn_wide.2 (digits_any l _)).mono ?_⟩
  rintro e w2 ⟨rfl, hw2⟩
  subst hw2
  have hB1 : Below w.heap.size w w1 := hu.below (Nat.le_refl _) (fun _ h => h.elim)
  have hz := hu.size
  have c0 := IntCell.new w1 0 3
  have c1 := IntCell.new (w1.alloc (.cells #[.int .i64 0] 3)) 0 3
  have c2 := cell_of_box_l (heap_alloc_new ((w1.alloc (.cells #[.int .i64 0] 3)).alloc (.cells #[.int .i64 0] 3)) (.cells #[.string ⟨l.toArray⟩] 9))
  simp only [World.size_alloc] at c1 c2
  have hB0 : Below w.heap.size w (((w1.alloc (.cells #[.int .i64 0] 3)).alloc (.cells #[.int .i64 0] 3)).alloc (.cells #[.string ⟨l.toArray⟩] 9)) := ((hB1.alloc hz _).alloc (by simp; omega) _).alloc (by simp; omega) _
  gi_wp2
  refine wpIn_rangeFunc_ownF rfl (by omega) (gf := 67) (lb := #[.pointer (some ⟨w1.heap.size + 1 + 1, 0, none⟩)]) rfl trivial (enters_of Tryd.func67 (by kernel_rfl) rfl)
    (digits_stops 4 (by omega) (w1.heap.size + 1 + 1) l (by omega) _ (by simp) c2.1) KpB.trans (KpB.put (by simp)) (Below.refl _ _) (fun _ => rfl)
    (fun pre W => (IntCell W w1.heap.size (sumD pre).1 ∧ IntCell W (w1.heap.size + 1) (sumD pre).2) ∧ Below w.heap.size w W)
    (fun _ _ _ => False)
    (OwnFrom.and (Own.from (fun s A B row hs hg hr => ⟨hs.1.kept hg hr, hs.2.kept hg hr⟩) _) (ownFrom_below (Nat.le_refl _) (by simp; omega)))
    (fun _ _ _ _ _ hs _ _ => hs)
    ⟨⟨(c0.alloc _).alloc _, c1.alloc _⟩, hB0⟩
    (fun x => { tmps := #[.string ⟨l.toArray⟩, undef, .int .u8 0, .int .i64 0, .pointer (some ⟨w1.heap.size, 0, none⟩), .pointer (some ⟨w1.heap.size + 1, 0, none⟩), .int .i64 x, .string ⟨l.toArray⟩, .bool true, .bool false, .string ⟨l.toArray⟩, .func (.func 67) #[] #[.pointer (some ⟨w1.heap.size + 1 + 1, 0, none⟩)], .int .i64 x, undef, undef, undef, undef, undef, undef, undef, undef, undef, undef, undef, undef, undef, undef, undef, undef, undef, undef, undef, undef], defers := [] }) ?assign ?body ?done ?stop
  case assign =>
    intro lp x W K hK
    gi_wp2
    exact hK
  case body =>
    rintro lp pre x W ⟨⟨hc0, hc1⟩, hB⟩ _
    have hs := sumD_snoc pre x
    obtain ⟨p, hp⟩ : ∃ p, sumD pre = p := ⟨_, rfl⟩
    rw [hp] at hs hc0 hc1
    clear hp
    obtain ⟨s0, s1⟩ := p
    have HS := Lib.hid hs; clear hs
    have x0 := hc0.1
    have x1 := hc1.1
    have f0 := hc0.2
    have f1 := hc1.2
    obtain ⟨q, hq⟩ : ∃ q, (s1.tmod 2 == 0) = q := ⟨_, rfl⟩
    cases q
    · have hd : dbl s1 x = x := by simp [dbl, hq]
      have HD := Lib.hid hd; clear hd
      gi_wp2
      refine ⟨(KeepsOthers.setCell _ _ _).trans (KeepsOthers.setCell _ _ _), (KpB.setCell _ ⟨w1.heap.size, 0, none⟩ _ (by simp; omega)).trans (KpB.setCell _ ⟨w1.heap.size + 1, 0, none⟩ _ (by simp)), ?_, (hB.setCell (p := ⟨w1.heap.size, 0, none⟩) hz _).setCell (p := ⟨w1.heap.size + 1, 0, none⟩) (by simp; omega) _⟩
      show IntCell _ _ (sumD (pre ++ [x])).1 ∧ IntCell _ _ (sumD (pre ++ [x])).2
      rw [HS.out, stepD, HD.out]
      exact ⟨(hc0.same _).other (by omega) _, (hc1.other (by omega) _).same _⟩
    · have hd : dbl s1 x = wrap64 (x * 2) := by simp [dbl, hq]
      have HD := Lib.hid hd; clear hd
      gi_wp2
      refine ⟨(KeepsOthers.setCell _ _ _).trans (KeepsOthers.setCell _ _ _), (KpB.setCell _ ⟨w1.heap.size, 0, none⟩ _ (by simp; omega)).trans (KpB.setCell _ ⟨w1.heap.size + 1, 0, none⟩ _ (by simp)), ?_, (hB.setCell (p := ⟨w1.heap.size, 0, none⟩) hz _).setCell (p := ⟨w1.heap.size + 1, 0, none⟩) (by simp; omega) _⟩
      show IntCell _ _ (sumD (pre ++ [x])).1 ∧ IntCell _ _ (sumD (pre ++ [x])).2
      rw [HS.out, stepD, HD.out]
      exact ⟨(hc0.same _).other (by omega) _, (hc1.other (by omega) _).same _⟩
  case done =>
    rintro D ys W hD rfl ⟨⟨hc, _⟩, hB⟩ hK
    obtain ⟨p, hp⟩ : ∃ p, sumD (digs l.reverse) = p := ⟨_, rfl⟩
    rw [hp] at hc
    have HP := Lib.hid hp; clear hp
    obtain ⟨s0, s1⟩ := p
    have x0 := hc.1
    gi_wp2
    refine ⟨by simp, .inl ⟨_, _, rfl, run_takeDeferred hK, ?_⟩⟩
    exact ⟨_, results_tmp2 rfl _ _ _, by rw [HP.out]; rfl, hB.trans (belowK_b (w := w) (Nat.le_refl _) W D _ _ (by simp at hD; omega) hK rfl rfl)⟩
  case stop =>
    rintro D c pre W _ _ h _
    exact h.elim

def digitRes (l : List UInt8) : Int × Int := if bodyOf l = true then (checkOf (sumD (digs l.reverse)).1, 0) else (0, 3)

set_option maxRecDepth 100000 in
set_option maxHeartbeats 400000 in
theorem Digit_any (l : List UInt8) (w : World) :
    Calls Tryd.prog 57 #[.string ⟨l.toArray⟩] w fun e w' => e = .returned (.tuple #[.int .u8 (digitRes l).1, .int .i64 (digitRes l).2]) ∧ Upd none_ w w' := by
  cases hb : bodyOf l
  · have hd : digitRes l = (0, 3) := by simp [digitRes, hb]
    rw [hd]
    clear hd
    go_enter Tryd.func57, Tryd.ntmps57
    go_wp2_with (go_at_call 62; refine (body_any l w).mono ?_; rintro e w1 ⟨rfl, hu⟩)
    go_ret2
    exact ⟨rfl, hu⟩
  · have hd : digitRes l = (checkOf (sumD (digs l.reverse)).1, 0) := by simp [digitRes, hb]
    rw [hd]
    exact (callsIn_wide.1 (digit_in l w hb)).mono fun e w' ⟨h1, h2⟩ => ⟨h1, Upd.of_below h2 _⟩

def isinErr (l : List UInt8) : Int :=
  if l.length ≠ 12 then 3 else
  if isDigit ((l.getD 11 0).toNat : Int) = false then 3 else
  if (digitRes (l.take 11)).2 ≠ 0 then (digitRes (l.take 11)).2 else
  if (digitRes (l.take 11)).1 ≠ ((l.getD 11 0).toNat : Int) then 11 else 0

theorem str_extract (l : List UInt8) (n : Nat) : (ByteArray.mk l.toArray).extract 0 n = ⟨(l.take n).toArray⟩ := by
  apply Go.WideShapes.bytes_inj
  rw [ByteArray.data_extract]
  simp

set_option maxRecDepth 100000 in
set_option maxHeartbeats 400000 in
theorem isin_any (l : List UInt8) (w : World) :
    Calls Tryd.prog 45 #[.string ⟨l.toArray⟩] w fun e w' => e = .returned (.int .i64 (isinErr l)) ∧ Upd none_ w w' := by
  by_cases h12 : l.length = 12
  · have ha : ((l.length : Int) != 12) = false := by simp; omega
    have hlt : 11 < l.length := by omega
    have hg : l.getD 11 0 = l[11] := by simp [List.getD, List.getElem?_eq_getElem hlt]
    have hE : isinErr l = if isDigit (l[11].toNat : Int) = false then 3 else if (digitRes (l.take 11)).2 ≠ 0 then (digitRes (l.take 11)).2 else if (digitRes (l.take 11)).1 ≠ (l[11].toNat : Int) then 11 else 0 := by
      unfold isinErr
      rw [hg]
      simp [h12]
    have HE := Lib.hid hE; clear hE hg
    have HL := Lib.hid h12; clear h12
    have hx := str_extract l 11
    obtain ⟨b, hb⟩ : ∃ b, isDigit (l[11].toNat : Int) = b := ⟨_, rfl⟩
    cases b
    · have hfin : isinErr l = 3 := by rw [HE.out, hb]; rfl
      have HF := Lib.hid hfin; clear hfin
      go_enter Tryd.func45, Tryd.ntmps45
      go_wp2_with (go_at_call 56; refine (digit_any _ _).mono ?_; rintro e w' ⟨rfl, rfl⟩)
      go_ret
      exact ⟨by rw [HF.out]; rfl, Upd.refl _ _⟩
    · have hr := Digit_any (l.take 11)
      obtain ⟨p, hp⟩ : ∃ p, digitRes (l.take 11) = p := ⟨_, rfl⟩
      rw [hp] at hr HE
      obtain ⟨c, e1⟩ := p
      clear hp
      have HR := Lib.hid hr; clear hr
      go_enter Tryd.func45, Tryd.ntmps45
      go_wp2_with (go_at_call 56; refine (digit_any _ _).mono ?_; rintro e w' ⟨rfl, rfl⟩)
      refine (HR.out _).mono ?_
      rintro e w1 ⟨rfl, hu⟩
      by_cases h0 : e1 = 0
      · subst h0
        by_cases hc : c = (l[11].toNat : Int)
        · have hcb : (c != (l[11].toNat : Int)) = false := by simp [hc]
          have hfin : isinErr l = 0 := by rw [HE.out, hb]; simp [hc]
          have HF := Lib.hid hfin; clear hfin hc
          go_wp2
          go_ret
          exact ⟨by rw [HF.out]; rfl, hu⟩
        · have hcb : (c != (l[11].toNat : Int)) = true := by simp [hc]
          have hfin : isinErr l = 11 := by rw [HE.out, hb]; simp [hc]
          have HF := Lib.hid hfin; clear hfin hc
          go_wp2
          go_ret
          exact ⟨by rw [HF.out]; rfl, hu⟩
      · have h0b : (e1 != 0) = true := by simp [h0]
        have hfin : isinErr l = e1 := by rw [HE.out, hb]; simp [h0]
        have HF := Lib.hid hfin; clear hfin h0
        go_wp2
        go_ret
        exact ⟨by rw [HF.out]; rfl, hu⟩
  · have ha : ((l.length : Int) != 12) = true := by simp; omega
    have hfin : isinErr l = 3 := by simp [isinErr, h12]
    have HF := Lib.hid hfin; clear hfin h12
    go_enter Tryd.func45, Tryd.ntmps45
    go_wp2
    go_ret
    exact ⟨by rw [HF.out]; rfl, Upd.refl _ _⟩
end Go.Proofs.YtpffaenjphnfiaaDoor
