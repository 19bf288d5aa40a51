/- The word of the ninth kind. -/
import Derived.Test.YtpffaenjphnfiaaDoorBase
import Derived.Test.YtpffaenjphnfiaaDoorShelf
namespace Go.Proofs.YtpffaenjphnfiaaDoor
open Go.RowKit
attribute [local go_sem] str_size str_toList str_get

abbrev wordsL : List UInt8 := [97, 99, 99, 101, 112, 116, 32, 99, 117, 116, 32, 112, 114, 105, 99, 101, 32, 115, 101, 116, 116, 108, 101, 32, 112, 111, 115, 116, 32, 99, 97, 108, 108, 32, 97, 110, 115, 119, 101, 114, 32, 115, 116, 111, 112, 32, 108, 101, 103, 32, 109, 97, 114, 107, 32, 114, 101, 112, 111, 114, 116, 32, 104, 97, 108, 116]
theorem words_ascii : ∀ (j : Nat) b, wordsL[j]? = some b → b.toNat < 128 := by
  intro j b hb
  have h : ∀ b ∈ wordsL, b.toNat < 128 := by decide
  exact h b (List.mem_of_getElem? hb)
theorem words_split : Lib.fields wordsL = [[97, 99, 99, 101, 112, 116], [99, 117, 116], [112, 114, 105, 99, 101], [115, 101, 116, 116, 108, 101], [112, 111, 115, 116], [99, 97, 108, 108], [97, 110, 115, 119, 101, 114], [115, 116, 111, 112], [108, 101, 103], [109, 97, 114, 107], [114, 101, 112, 111, 114, 116], [104, 97, 108, 116]] := by rfl

set_option maxRecDepth 100000 in
set_option maxHeartbeats 1000000 in
theorem word_leg (w : World) (htab : Lib.TabIs Tryd.prog w "strings.asciiSpace" .u8 Lib.asciiSpaceTab) :
    Calls Tryd.prog 13 #[.int .i64 9] w fun e w' => e = .returned (str [108, 101, 103]) ∧ Upd none_ w w' := by
  have hct := Tryd.strings_Fields ⟨wordsL.toArray⟩ w (by simp [str_size]) words_ascii htab
  rw [show (⟨wordsL.toArray⟩ : ByteArray).data.toList = wordsL from rfl, words_split] at hct
  have HCT := Lib.hid hct
  clear hct
  go_enter Tryd.func13, Tryd.ntmps13
  go_wp2_with fail
  refine HCT.out.mono ?_
  rintro e w1 ⟨rfl, hw1⟩
  have hU : Upd none_ w w1 := by rw [hw1]; exact (Upd.refl none_ w).alloc _
  have c8 : w1.cell? ⟨w.heap.size, 8, none⟩ = some (str [108, 101, 103]) := by
    rw [hw1]
    exact (Blk.new w _ _).cell 8
  clear hw1
  go_wp2
  go_ret
  exact ⟨rfl, hU⟩
end Go.Proofs.YtpffaenjphnfiaaDoor
