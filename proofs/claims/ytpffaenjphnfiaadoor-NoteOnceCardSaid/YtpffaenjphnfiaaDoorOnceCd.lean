/- The law NoteOnce returns true whatever bytes come in, and reads its arguments as they were: the tied card: the two listed variables hold what the program's text lays; no other condition. -/
import Derived.Test.YtpffaenjphnfiaaDoorOncePr
import Derived.Test.YtpffaenjphnfiaaDoorCards
import Derived.Test.YtpffaenjphnfiaaDoorTie
import Derived.SevenTiedAt
namespace Go.Proofs.YtpffaenjphnfiaaDoor
open Go

theorem noteOnce_card : Rows.NoteOnceCardSaid :=
  Claim7.holds_tied_plain_at .later [] [.listed, .data] true (true, "2259f8e6af4b90cb8cd9c91b5fbdf0d719c5f5133959b2cf905fa21f5b5082f6") false
    noteOnce_holds (fun _ h => by cases h) (by kernel_rfl) (fun _ h => by cases h) noteOnce_row_tie rfl ⟨rfl, rfl⟩ (by kernel_rfl) rfl
    (fun f fn hf hfn => by
      obtain rfl : f = 3 := Option.some.inj ((show Tryd.prog.funcNamed "clevis/clevislaw09.NoteOnce" = some 3 by kernel_rfl).symm.trans hf) |>.symm
      obtain rfl : fn = Tryd.f3 := (Option.some.inj (Tryd.func3.symm.trans hfn)).symm
      exact ⟨by kernel_rfl, fun j t ht => by
        rw [Tryd.params3] at ht
        have hm : t ∈ [22, 22] := by simpa using Array.mem_of_getElem? ht
        have hall : ([22, 22].all fun u => !Tryd.prog.wantsStandIn u) = true := by kernel_rfl
        exact (show Tryd.prog.wantsStandIn t = false by simpa using List.all_eq_true.1 hall t hm)⟩)
    (by kernel_rfl)
#print axioms noteOnce_card
end Go.Proofs.YtpffaenjphnfiaaDoor
