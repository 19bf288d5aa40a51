/- Notes: what a kind asks for, what a note has. -/
import Derived.Deep.RegionWith
import Derived.StillTailTactics
import Derived.Laws.StructEq
import Derived.Test.YtpffaenjphnfiaaDoorTGet
namespace Go.Proofs.YtpffaenjphnfiaaDoor
open Go.RowKit
attribute [local go_sem] str_size str_toList str_get

/-- What a kind asks for: peer, day, trade, name, amount, rows, cash. -/
structure Fm where
  peer : Bool
  day : Bool
  trade : Bool
  name : Bool
  amount : Bool
  rows : Bool
  cash : Bool
abbrev fmA (f : Fm) : Array Value := #[.bool f.peer, .bool f.day, .bool f.trade, .bool f.name, .bool f.amount, .bool f.rows, .bool f.cash]
def formOf (k : Int) : Fm :=
  if k = 1 then ⟨false, false, true, false, false, false, false⟩ else
  if k = 3 ∨ k = 5 ∨ k = 6 then ⟨false, false, false, true, true, false, false⟩ else
  if k = 4 then ⟨false, true, false, false, false, false, false⟩ else
  if k = 7 then ⟨false, false, false, true, false, false, false⟩ else
  if k = 8 ∨ k = 12 then ⟨true, false, false, false, false, false, false⟩ else
  if k = 9 then ⟨true, true, true, false, false, false, false⟩ else
  if k = 10 then ⟨true, true, false, false, false, true, false⟩ else
  if k = 11 then ⟨true, true, false, false, false, true, true⟩ else ⟨false, false, false, false, false, false, false⟩
def isKind (k : Int) : Bool := decide (1 ≤ k) && decide (k ≤ 12)
theorem kinds (k : Int) : (k = 1 ∨ k = 2 ∨ k = 3 ∨ k = 4 ∨ k = 5 ∨ k = 6 ∨ k = 7 ∨ k = 8 ∨ k = 9 ∨ k = 10 ∨ k = 11 ∨ k = 12) ∨ (k < 1 ∨ 12 < k) := by omega

set_option maxRecDepth 100000 in
set_option maxHeartbeats 2000000 in
theorem forms_any (k : Int) (w : World) :
    Calls Tryd.prog 16 #[.int .i64 k] w fun e w' => e = .returned (.tuple #[.agg (fmA (formOf k)), .bool (isKind k)]) ∧ Upd none_ w w' := by
  rcases kinds k with (rfl | rfl | rfl | rfl | rfl | rfl | rfl | rfl | rfl | rfl | rfl | rfl) | h
  iterate 12
    · go_enter Tryd.func16, Tryd.ntmps16
      go_wp2
      exact bodyPost_ret (v := .tuple #[.agg _, .bool true]) (by simp [results, Tryd.results16, go_sem]; decide) rfl ⟨rfl, (Upd.refl _ _).alloc _⟩
  · have k1 : (k == 1) = false := by simp; omega
    have k2 : (k == 2) = false := by simp; omega
    have k3 : (k == 3) = false := by simp; omega
    have k4 : (k == 4) = false := by simp; omega
    have k5 : (k == 5) = false := by simp; omega
    have k6 : (k == 6) = false := by simp; omega
    have k7 : (k == 7) = false := by simp; omega
    have k8 : (k == 8) = false := by simp; omega
    have k9 : (k == 9) = false := by simp; omega
    have k10 : (k == 10) = false := by simp; omega
    have k11 : (k == 11) = false := by simp; omega
    have k12 : (k == 12) = false := by simp; omega
    have hf : formOf k = ⟨false, false, false, false, false, false, false⟩ := by
      simp only [beq_eq_false_iff_ne] at k1 k2 k3 k4 k5 k6 k7 k8 k9 k10 k11 k12
      simp [formOf, k1, k3, k4, k5, k6, k7, k8, k9, k10, k11, k12]
    have hi : isKind k = false := by simp [isKind]; omega
    rw [hf, hi]
    clear hf hi h
    go_enter Tryd.func16, Tryd.ntmps16
    go_wp2
    exact bodyPost_ret (v := .tuple #[.agg _, .bool false]) (by simp [results, Tryd.results16, go_sem]) rfl ⟨rfl, (Upd.refl _ _).alloc _⟩

def moreOf (f has : Fm) : Bool :=
  (has.peer && !f.peer) || (has.day && !f.day) || (has.trade && !f.trade) || (has.name && !f.name) || (has.amount && !f.amount) || (has.rows && !f.rows) || (has.cash && !f.cash)

end Go.Proofs.YtpffaenjphnfiaaDoor
