/- What comes in, opened; the row's last step. -/
import Derived.Test.YtpffaenjphnfiaaDoorRows
import Derived.Test.YtpffaenjphnfiaaDoorBase
import Derived.Carry
import Derived.ChangeSame
import Derived.LaidMore
import Derived.OpenShut
import Derived.ProofKit
import Derived.Stop.Joined
import Derived.Stop.LaidErr
namespace Go.Proofs.YtpffaenjphnfiaaDoor
open Go.RowKit Go.WideShapes Go.ChangeShapes Go.ChangeAt

section
variable {H : Type} {enc : TypeId × Value → H} {P : Program}
theorem post_of_below {f : Func} {s : ChangeSpec} {apart fresh handsOn again : Bool} {W W' : World} {args : Array Value} {v : Value} {ds gs : List (DataW H)} {before pa pv : List MemPlace}
    (hW : DataW.Whole enc P f.params.toList s.vars apart W args.toList ds gs before)
    (hres : ∀ (b : Nat) (sp : Nat → Bool) (hd : Bool), DataW.TrodAll enc P W' b sp hd f.resultTypes.toList (v.resultList f.resultTypes.size) (s.fn H (ds ++ gs)).results [])
    (hargs : ∀ sp : Nat → Bool, (∀ p ∈ before, sp p.block = true) → DataW.TrodAll enc P W' 0 sp true f.params.toList args.toList (s.fn H (ds ++ gs)).args pa)
    (hvars : ∀ sp : Nat → Bool, (∀ p ∈ before, sp p.block = true) → DataW.TrodVars enc P W' sp s.vars (s.fn H (ds ++ gs)).vars pv)
    (hps : before = pa ++ pv) (hb : Below W.heap.size W W')
    (hok : ∀ (j : Nat) (t : TypeId) (r : Value), f.resultTypes[j]? = some t → (v.resultList f.resultTypes.size)[j]? = some r → Value.okWide P W' .any 0 t r) :
    s.post enc P f apart fresh handsOn again W args v W' := by
  have hlt : ∀ p ∈ before, p.block < W.heap.size := fun p hp => hW.lt p hp
  have hold : ∀ p ∈ before, (fun b => decide (b < W.heap.size)) p.block = true := fun p hp => by simpa using hlt p hp
  refine ⟨ds, gs, before, [], pa, pv, hW, hres _ _ _, hargs _ hold, hvars _ hold, World.keptBut_mono (fun p hp => ⟨hp, ?_⟩) (hb.frame (· ∈ before)), fun _ => ?_⟩
  · rw [hps, List.mem_append] at hp
    exact Or.inr hp
  · obtain ⟨_, _, _, _, _, hz, hn⟩ := hW
    refine ⟨hok, _, _, ([] ++ pa) ++ pv, ⟨[] ++ pa, pv, trodAll_append (hargs _ (fun _ _ => rfl)) (hres _ _ _), hvars _ (fun _ _ => rfl), rfl, ?_, ?_⟩, ?_⟩
    · intro b off hp
      have hin : MemPlace.cell b off ∈ before := by rw [hps]; simpa using hp
      rw [hb.frozen (hlt _ hin)]
      exact hz b off hin
    · intro ha
      have := hn ha
      rw [hps] at this
      simpa using this
    · intro p hp _
      rw [hps]
      simpa using hp
end

theorem own : ownKnob Tryd.prog.godebug = none := by kernel_rfl
theorem laidOut : laidOutB Tryd.prog = true := by kernel_rfl
theorem cellsByte : Tryd.prog.cellsOf 5 = 1 := by kernel_rfl

/-- Bytes that came in. -/
theorem open_bytes {H : Type} {enc : TypeId × Value → H} {W : World} {a0 : Option Addr} {len cap fuel : Nat} {sp : Nat → Bool} {x : DataW H × List MemPlace}
    (hf : DataW.trod enc Tryd.prog W 0 sp true fuel 22 [.slice a0 len cap] = some x) :
    ∃ xs : List UInt8, xs.length = len ∧ Bs W (fun k => k < W.heap.size) a0 xs ∧ len ≤ cap ∧ len ≤ 9223372036854775807 := by
  rcases open_ints Tryd.underlying22 Tryd.underlying5 cellsByte hf with ⟨hcs, _⟩ | ⟨a, len', cap', zs, hcs, _, hl, hm, hz, _, hcell, hwf⟩
  · simp at hcs
    obtain ⟨rfl, rfl, rfl⟩ := hcs
    exact ⟨[], rfl, Rd.nil_, by omega, by omega⟩
  · simp at hcs
    obtain ⟨rfl, rfl, rfl⟩ := hcs
    unfold maxLen at hm
    have hzl : len ≤ zs.length := by
      rw [hz]
      split <;> omega
    refine ⟨(zs.take len).map fun z => UInt8.ofNat z.toNat, by simp; omega, ⟨by simp, fun hn => ⟨a, rfl, ?_, ?_⟩⟩, hl, by omega⟩
    · have := World.block_lt_of_cell? W _ (hcell 0 (by simp at hn; omega))
      rw [block_of_add] at this
      exact this
    · intro j u hu
      simp only [List.getElem?_map, List.map_map] at hu
      by_cases hj : j < len
      · rw [List.getElem?_take_of_lt hj, List.getElem?_eq_getElem (by omega)] at hu
        simp only [Option.map_some, Option.some.injEq, Function.comp] at hu
        have hc := hcell j (by omega)
        have hw := hwf _ (List.getElem_mem (show j < zs.length by omega))
        simp only [List.getD, List.getElem?_eq_getElem (show j < zs.length by omega), Option.getD_some] at hc
        rw [hc, ← hu, bv]
        generalize zs[j] = z at hw
        have h2 : 0 ≤ z ∧ z < 256 := by
          simp only [Lit.wf, Bool.and_eq_true, decide_eq_true_eq] at hw
          have e1 : IntKind.u8.min = 0 := by decide
          have e2 : IntKind.u8.max = 255 := by decide
          rw [e1, e2] at hw
          omega
        have e3 : (UInt8.ofNat z.toNat).toNat = z.toNat := by
          rw [UInt8.toNat_ofNat']
          omega
        rw [e3]
        congr 2
        omega
      · rw [List.getElem?_eq_none (by simp; omega)] at hu
        simp at hu

end Go.Proofs.YtpffaenjphnfiaaDoor
