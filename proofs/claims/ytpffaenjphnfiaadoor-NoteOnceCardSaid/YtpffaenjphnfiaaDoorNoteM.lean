/- Whether a note has more than its kind asks for. -/
import Derived.Test.YtpffaenjphnfiaaDoorNoteA
namespace Go.Proofs.YtpffaenjphnfiaaDoor
open Go.RowKit

set_option maxRecDepth 100000 in
set_option maxHeartbeats 8000000 in
theorem more_any (f has : Fm) (w : World) : Calls Tryd.prog 25 #[.agg (fmA f), .agg (fmA has)] w fun e w' => e = .returned (.bool (moreOf f has)) ∧ Upd none_ w w' := by
  obtain ⟨f0, f1, f2, f3, f4, f5, f6⟩ := f
  obtain ⟨h0, h1, h2, h3, h4, h5, h6⟩ := has
  have hC : moreOf ⟨f0, f1, f2, f3, f4, f5, f6⟩ ⟨h0, h1, h2, h3, h4, h5, h6⟩ = ((h0 && !f0) || (h1 && !f1) || (h2 && !f2) || (h3 && !f3) || (h4 && !f4) || (h5 && !f5) || (h6 && !f6)) := rfl
  generalize moreOf ⟨f0, f1, f2, f3, f4, f5, f6⟩ ⟨h0, h1, h2, h3, h4, h5, h6⟩ = q at *
  subst hC
  go_enter Tryd.func25, Tryd.ntmps25
  go_wp2
  all_goals
    go_ret
    refine ⟨?_, ((Upd.refl none_ _).alloc _).alloc _⟩
    simp_all
end Go.Proofs.YtpffaenjphnfiaaDoor
