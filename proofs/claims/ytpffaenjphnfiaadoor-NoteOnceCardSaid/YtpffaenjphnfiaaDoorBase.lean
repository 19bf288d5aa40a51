/- Words for memory that all walks of this seat use. -/
import Derived.WalkKit
import Derived.WalkSpells
import Derived.WalkLawsBesides
import Derived.Below
import Derived.IntWalk
import Derived.Laws.OwnMore
import Derived.Deep.AppendLies
import Derived.Deep.Draws
import Derived.Deep.QuietTactic
import Derived.Deep.LoopGhost
import Derived.Deep.DeepFit
import Derived.BigQuiet
import Derived.Maps.AppendAt
import Derived.RegionTactic
import Derived.OwnWalk
import Derived.Lib.Hide
import Derived.Laws.IdiomStrings
namespace Go.Proofs.YtpffaenjphnfiaaDoor
open Go.RowKit

/-- Of the blocks that were there, those outside S are as they were. -/
structure Upd (S : Nat → Prop) (w w' : World) : Prop where
  os : w'.os = w.os
  tape : w'.tape = w.tape
  output : w'.output = w.output
  size : w.heap.size ≤ w'.heap.size
  block : ∀ k, k < w.heap.size → ¬ S k → w'.heap[k]? = w.heap[k]?

def none_ (_ : Nat) : Prop := False

section
variable {S S' T : Nat → Prop} {w w' w1 w2 : World}
theorem Upd.refl (S : Nat → Prop) (w : World) : Upd S w w := ⟨rfl, rfl, rfl, Nat.le_refl _, fun _ _ _ => rfl⟩
theorem Upd.mono (h : Upd S w w') (hs : ∀ k, S k → S' k) : Upd S' w w' :=
  ⟨h.os, h.tape, h.output, h.size, fun k hk hn => h.block k hk (fun hs' => hn (hs k hs'))⟩
theorem Upd.trans (h : Upd S w w1) (k : Upd S w1 w2) : Upd S w w2 :=
  ⟨k.os.trans h.os, k.tape.trans h.tape, k.output.trans h.output, Nat.le_trans h.size k.size,
    fun i hi hn => (k.block i (Nat.lt_of_lt_of_le hi h.size) hn).trans (h.block i hi hn)⟩
/-- A further step that turns what S names, or what is new since. -/
theorem Upd.then_ (h : Upd S w w1) (k : Upd T w1 w2) (ht : ∀ k, T k → S k ∨ w.heap.size ≤ k) : Upd S w w2 :=
  ⟨k.os.trans h.os, k.tape.trans h.tape, k.output.trans h.output, Nat.le_trans h.size k.size,
    fun i hi hn => (k.block i (Nat.lt_of_lt_of_le hi h.size) (fun hT => (ht i hT).elim hn (fun h' => by omega))).trans (h.block i hi hn)⟩
theorem Upd.drewN (h : Upd S w w1) (n : Nat) : Upd S w (w1.drewN n) := ⟨h.os, h.tape, h.output, h.size, h.block⟩
theorem Upd.drew (h : Upd S w w1) : Upd S w w1.drew := ⟨h.os, h.tape, h.output, h.size, h.block⟩
theorem Upd.alloc (h : Upd S w w1) (o : Obj) : Upd S w (w1.alloc o) :=
  ⟨h.os, h.tape, h.output, Nat.le_trans h.size (by simp), fun k hk hn => (Below.heap_alloc w1 o k (Nat.lt_of_lt_of_le hk h.size)).trans (h.block k hk hn)⟩
theorem Upd.setCell (h : Upd S w w1) {p : Addr} (hp : S p.block ∨ w.heap.size ≤ p.block) (u : Value) : Upd S w (w1.setCell p u) :=
  ⟨h.os, h.tape, h.output, by simpa [World.setCell] using h.size, fun k hk hn => (Below.heap_setCell w1 p u k (by
    rintro rfl
    exact hp.elim hn (fun h' => by omega))).trans (h.block k hk hn)⟩
theorem Upd.grown {row : Option Nat} (h : Upd S w w1) (hg : w1.grownBy w2 row) (hr : ∀ k, row = some k → S k ∨ w.heap.size ≤ k) : Upd S w w2 :=
  h.then_ (T := fun k => row = some k) ⟨hg.os, hg.tape, hg.output, hg.size, fun k hk hn => hg.block k hk (fun e => hn e.symm)⟩ hr
theorem Upd.of_below (h : Below w.heap.size w w1) (S : Nat → Prop) : Upd S w w1 := ⟨h.os, h.tape, h.output, h.size, fun k hk _ => h.block k hk⟩
theorem Upd.below (h : Upd S w w1) {B : Nat} (hB : B ≤ w.heap.size) (hs : ∀ k, S k → B ≤ k) : Below B w w1 :=
  ⟨h.os, h.tape, h.output, h.size, fun k hk => h.block k (by omega) (fun hS => by have := hs k hS; omega)⟩
theorem Upd.cell (h : Upd S w w') {p : Addr} {v : Value} (hc : w.cell? p = some v) (hn : ¬ S p.block) : w'.cell? p = some v :=
  (World.cell?_of_block (h.block p.block (World.block_lt_of_cell? w p hc) hn)).trans hc
end

/-! ### A slice that reads as a list; its block lies in I -/
theorem block_of_add (a : Addr) (n : Nat) : (a.add n).block = a.block := by unfold Addr.add; split <;> rfl
theorem add_of_add (a : Addr) (i j : Nat) : (a.add i).add j = a.add (i + j) := by
  unfold Addr.add
  by_cases hi : i = 0 <;> by_cases hj : j = 0 <;> simp [hi, hj, Nat.add_assoc]

def Rd (w : World) (I : Nat → Prop) (size : Nat) (A : Option Addr) (n : Nat) (xs : List Value) : Prop :=
  xs.length = n * size ∧ (0 < n → ∃ ad, A = some ad ∧ I ad.block ∧ ∀ j u, xs[j]? = some u → w.cell? (ad.add j) = some u)

section
variable {w w' : World} {I J S : Nat → Prop} {size n : Nat} {A : Option Addr} {xs : List Value}
theorem Rd.nil_ : Rd w I size A 0 [] := ⟨by simp, fun h => absurd h (by omega)⟩
theorem Rd.at_ {k : Nat} (h : Rd w I 1 A n xs) (hk : k < n) : ∃ ad u, A = some ad ∧ I ad.block ∧ xs[k]? = some u ∧ w.cell? (ad.add k) = some u := by
  obtain ⟨ad, e, hb, hc⟩ := h.2 (by omega)
  have hl : k < xs.length := by have := h.1; omega
  exact ⟨ad, xs[k], e, hb, List.getElem?_eq_getElem hl, hc k _ (List.getElem?_eq_getElem hl)⟩
theorem Rd.keep (h : Rd w I size A n xs) (hk : ∀ p : Addr, I p.block → ∀ v, w.cell? p = some v → w'.cell? p = some v) : Rd w' I size A n xs :=
  ⟨h.1, fun hn => by
    obtain ⟨ad, e, hb, hc⟩ := h.2 hn
    exact ⟨ad, e, hb, fun j u hu => hk _ (by rw [block_of_add]; exact hb) _ (hc j u hu)⟩⟩
theorem Rd.more (h : Rd w I size A n xs) (hI : ∀ k, I k → J k) : Rd w J size A n xs :=
  ⟨h.1, fun hn => by
    obtain ⟨ad, e, hb, hc⟩ := h.2 hn
    exact ⟨ad, e, hI _ hb, hc⟩⟩
theorem Rd.upd (h : Rd w I size A n xs) (hu : Upd S w w') (hd : ∀ k, S k → ¬ I k) : Rd w' I size A n xs :=
  h.keep fun _ hp _ hc => hu.cell hc (fun hS => hd _ hS hp)
theorem Rd.drewN (h : Rd w I size A n xs) (k : Nat) : Rd (w.drewN k) I size A n xs := h
theorem Rd.drew (h : Rd w I size A n xs) : Rd w.drew I size A n xs := h
theorem Rd.alloc (h : Rd w I size A n xs) (o : Obj) : Rd (w.alloc o) I size A n xs := h.keep fun p _ _ hc => (World.cell?_alloc_lt w o p (World.block_lt_of_cell? w p hc)).trans hc
theorem Rd.cut (h : Rd w I size A n xs) {k cap : Nat} (hk : k ≤ n) (hc : n ≤ cap) :
    Rd w I size (if cap = k then A else A.map (·.add (k * size))) (n - k) (xs.drop (k * size)) := by
  refine ⟨by rw [List.length_drop, h.1, Nat.sub_mul], fun hn => ?_⟩
  obtain ⟨ad, rfl, hb, hcell⟩ := h.2 (by omega)
  rw [if_neg (by omega)]
  refine ⟨ad.add (k * size), rfl, by rw [block_of_add]; exact hb, fun j u hu => ?_⟩
  rw [add_of_add]
  exact hcell _ u (by rw [← hu, List.getElem?_drop])
theorem Rd.take (h : Rd w I size A n xs) {k : Nat} (hk : k ≤ n) : Rd w I size A k (xs.take (k * size)) := by
  refine ⟨by rw [List.length_take, h.1]; exact Nat.min_eq_left (Nat.mul_le_mul_right _ hk), fun hn => ?_⟩
  obtain ⟨ad, rfl, hb, hcell⟩ := h.2 (by omega)
  refine ⟨ad, rfl, hb, fun j u hu => hcell j u ?_⟩
  rw [List.getElem?_take] at hu
  split at hu
  · exact hu
  · cases hu
end

theorem add_zero_ (a : Addr) : a.add 0 = a := rfl
def bv (b : UInt8) : Value := .int .u8 (b.toNat : Int)
/-- A slice of bytes. -/
def Bs (w : World) (I : Nat → Prop) (A : Option Addr) (bs : List UInt8) : Prop := Rd w I 1 A bs.length (bs.map bv)

theorem Bs.at_ {w : World} {I : Nat → Prop} {A : Option Addr} {bs : List UInt8} (h : Bs w I A bs) {k : Nat} (hk : k < bs.length) :
    ∃ ad, A = some ad ∧ I ad.block ∧ w.cell? (ad.add k) = some (.int .u8 ((bs[k]'hk).toNat : Int)) := by
  obtain ⟨ad, u, e, hb, hx, hc⟩ := Rd.at_ h hk
  refine ⟨ad, e, hb, ?_⟩
  rw [hc]
  simp only [List.getElem?_map, List.getElem?_eq_getElem hk, Option.map_some, Option.some.injEq] at hx
  rw [← hx]
  rfl

/-! ### A block that is known whole -/
def Blk (w : World) (g : Nat) (t : TypeId) (cs : Array Value) : Prop := w.heap[g]? = some (.cells cs t (0, 0))

section
variable {w w' : World} {g : Nat} {t : TypeId} {cs : Array Value} {S : Nat → Prop}
theorem Blk.lt (h : Blk w g t cs) : g < w.heap.size := by
  rcases Nat.lt_or_ge g w.heap.size with hlt | hge
  · exact hlt
  · unfold Blk at h; rw [Array.getElem?_eq_none hge] at h; cases h
theorem Blk.cell (h : Blk w g t cs) (i : Nat) : w.cell? ⟨g, i, none⟩ = cs[i]? := cell_of_row w g i cs t (0, 0) h
theorem Blk.frozen (h : Blk w g t cs) (i : Nat) : w.frozen? ⟨g, i, none⟩ = false := by
  unfold Blk at h
  simp [World.frozen?, h]
theorem Blk.new (w : World) (t : TypeId) (cs : Array Value) : Blk (w.alloc (.cells cs t)) w.heap.size t cs := heap_alloc_new w _
theorem Blk.drew (h : Blk w g t cs) : Blk w.drew g t cs := h
theorem Blk.drewN (h : Blk w g t cs) (n : Nat) : Blk (w.drewN n) g t cs := h
theorem Blk.alloc (h : Blk w g t cs) (o : Obj) : Blk (w.alloc o) g t cs := (Below.heap_alloc w o g h.lt).trans h
theorem Blk.set_ (h : Blk w g t cs) (i : Nat) (u : Value) : Blk (w.setCell ⟨g, i, none⟩ u) g t (cs.setIfInBounds i u) := by
  unfold Blk at h ⊢
  simp [World.setCell, Array.getElem?_modify, h]
theorem Blk.far (h : Blk w g t cs) {p : Addr} (hp : g ≠ p.block) (u : Value) : Blk (w.setCell p u) g t cs := (Below.heap_setCell w p u g hp).trans h
theorem Blk.upd (h : Blk w g t cs) (hu : Upd S w w') (hg : ¬ S g) : Blk w' g t cs := (hu.block g h.lt hg).trans h
theorem Blk.ne_ {g' : Nat} {t' : TypeId} {cs' : Array Value} (h : Blk w g t cs) (h' : Blk w g' t' cs') (hne : t ≠ t') : g ≠ g' := by
  rintro rfl
  unfold Blk at h h'
  rw [h] at h'
  injection h' with h'
  injection h' with _ ht
  exact hne ht
end

theorem Upd.set1 (w : World) (g i : Nat) (u : Value) : Upd (· = g) w (w.setCell ⟨g, i, none⟩ u) :=
  (Upd.refl (· = g) w).setCell (p := ⟨g, i, none⟩) (.inl rfl) u

section
variable {w w' : World} {I : Nat → Prop} {A : Option Addr} {bs : List UInt8} {n c : Nat}
theorem Bs.nil_ (w : World) (I : Nat → Prop) (A : Option Addr) : Bs w I A [] := ⟨rfl, fun h => absurd h (by simp)⟩
theorem Bs.take (h : Bs w I A bs) (n : Nat) (hn : n ≤ bs.length) : Bs w I A (bs.take n) := by
  have h2 := Rd.take h hn
  unfold Bs
  rw [List.length_take, Nat.min_eq_left hn, List.map_take]
  simpa using h2
theorem Bs.drop_ne (h : Bs w I A bs) (hn : n ≤ bs.length) (hc : bs.length ≤ c) (hne : ¬ c = n) : Bs w I (A.map (fun x => x.add n)) (bs.drop n) := by
  have h2 := Rd.cut h hn hc
  rw [if_neg hne] at h2
  unfold Bs
  rw [List.length_drop, List.map_drop]
  simpa using h2
theorem Bs.drop_eq (hc : bs.length ≤ n) : Bs w I A (bs.drop n) := by
  rw [List.drop_eq_nil_of_le hc]
  exact Bs.nil_ _ _ _
end

theorem all_take_step {α : Type} (l : List α) (p : α → Bool) (k : Nat) (hk : k < l.length) : (l.take (k + 1)).all p = ((l.take k).all p && p l[k]) := by
  rw [List.take_succ_eq_append_getElem hk, List.all_append]
  simp
theorem all_false_at {α : Type} (l : List α) (p : α → Bool) (k : Nat) (hk : k < l.length) (h : p l[k] = false) : l.all p = false := by
  rw [List.all_eq_false]
  exact ⟨_, List.getElem_mem hk, by simp [h]⟩
abbrev str (l : List UInt8) : Value := .string ⟨l.toArray⟩
theorem str_size (l : List UInt8) : (ByteArray.mk l.toArray).size = l.length := by simp [ByteArray.size]
theorem str_toList (l : List UInt8) : (ByteArray.mk l.toArray).toList = l := by rw [ByteArray.toList_eq]
theorem str_get (l : List UInt8) (i : Nat) (h : i < (ByteArray.mk l.toArray).size) : (ByteArray.mk l.toArray)[i]'h = l[i]'(by rw [str_size] at h; exact h) := rfl
theorem str_inj {a b : List UInt8} (h : str a = str b) : a = b := by
  injection h with h
  injection h with h
  simpa using h
/-- The bytes of a text, in a new row. -/
theorem conv_str {P : Program} (w : World) (src dst e : TypeId) (l : List UInt8) (hs : P.underlying src = some .string) (hd : P.underlying dst = some (.slice e)) (he : P.underlying e = some (.int .u8)) :
    ∃ a cap w1, (convert src dst (.string ⟨l.toArray⟩)).run P w = .ok (.slice (some a) l.length cap) w1 ∧ l.length ≤ cap ∧ Bs w1 (· = w.heap.size) (some a) l ∧ a.block = w.heap.size ∧
      w.heap.size < w1.heap.size ∧ Upd none_ w w1 := by
  have hr := run_bytes_of_string w src dst e ⟨l.toArray⟩ hs hd he
  rw [str_size] at hr
  refine ⟨_, _, _, hr, grownCap_ge _ _ _ _, ⟨by simp, fun _ => ⟨_, rfl, rfl, fun j u hu => ?_⟩⟩, rfl, by simp, ((Upd.refl none_ w).drew).alloc _⟩
  have hadd : (⟨w.heap.size, 0, none⟩ : Addr).add j = ⟨w.heap.size, j, none⟩ := by unfold Addr.add; split <;> simp_all
  have hnew : (w.drew.alloc (.cells (bytesRow ⟨l.toArray⟩ (grownCap w l.length 0 e)) e ((bytesRow ⟨l.toArray⟩ (grownCap w l.length 0 e)).size, (bytesRow ⟨l.toArray⟩ (grownCap w l.length 0 e)).size + 1))).heap[w.heap.size]? = some (.cells (bytesRow ⟨l.toArray⟩ (grownCap w l.length 0 e)) e ((bytesRow ⟨l.toArray⟩ (grownCap w l.length 0 e)).size, (bytesRow ⟨l.toArray⟩ (grownCap w l.length 0 e)).size + 1)) := heap_alloc_new w.drew _
  rw [hadd, cell_of_row _ _ j _ e _ hnew]
  have hj : j < l.length := by
    have := (List.getElem?_eq_some_iff.1 hu).1
    simpa using this
  rw [bytesRow, Array.getElem?_append_left (by simpa using hj)]
  simp only [List.getElem?_map] at hu
  simpa [bv] using hu
theorem conv_bytes {P : Program} {w : World} {I : Nat → Prop} {A : Option Addr} {l : List UInt8} (h : Bs w I A l) (src dst e : TypeId) (cap : Nat) (hs : P.underlying src = some (.slice e)) (he : P.underlying e = some (.int .u8)) (hd : P.underlying dst = some .string) :
    (convert src dst (.slice A l.length cap)).run P w = .ok (str l) w := by
  cases A with
  | none =>
    have : l = [] := by
      cases l with
      | nil => rfl
      | cons b t => obtain ⟨ad, h, _⟩ := h.2 (by simp); cases h
    subst this
    rw [run_convert_bytes_nil w src e hs he _ _ dst hd]
    rfl
  | some a =>
    exact run_convert_bytes_back w src dst e a cap l hs he hd (fun j hj => by
      obtain ⟨ad, e1, _, hc⟩ := h.at_ hj
      injection e1 with e1
      rw [e1]
      exact hc)

/-- The world but for draws. -/
def Dr (w w' : World) : Prop := ∃ k, w' = w.drewN k
theorem Dr.refl (w : World) : Dr w w := ⟨0, rfl⟩
theorem Dr.drewN {w w' : World} (h : Dr w w') (n : Nat) : Dr w (w'.drewN n) := by
  obtain ⟨k, rfl⟩ := h
  exact ⟨k + n, by rw [World.drewN_drewN]⟩
theorem Dr.trans {w w' w2 : World} (h : Dr w w') (k : Dr w' w2) : Dr w w2 := by
  obtain ⟨n, rfl⟩ := k
  exact h.drewN n
theorem Dr.upd {w w' : World} (h : Dr w w') (S : Nat → Prop) : Upd S w w' := by
  obtain ⟨k, rfl⟩ := h
  exact (Upd.refl S w).drewN k
theorem hid_le {p : Prop} (h : p) : Hid p := h

/-- The world under one name. -/
theorem wp_abs {P : Program} {c : Code} {Q : Exit → Act → World → Prop} {a : Act} {w : World} (h : ∀ w1, w1 = w → c.wp P Q a w1) : c.wp P Q a w := h w rfl
end Go.Proofs.YtpffaenjphnfiaaDoor
