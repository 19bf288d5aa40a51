/- The chapter's examples. -/
import Derived.Lib.AppendIntMem
import Derived.Test.YtpffaenjphnfiaaDoorEnc
import Derived.Test.YtpffaenjphnfiaaDoorSame
import Derived.Test.YtpffaenjphnfiaaDoorWord
namespace Go.Proofs.YtpffaenjphnfiaaDoor
open Go.RowKit
attribute [local go_sem] str_size str_toList str_get

theorem tab_upd {w w' : World} (h : Lib.TabIs Tryd.prog w "strings.asciiSpace" .u8 Lib.asciiSpaceTab) (hu : Upd none_ w w') : Lib.TabIs Tryd.prog w' "strings.asciiSpace" .u8 Lib.asciiSpaceTab := by
  exact Lib.tabBelow_of_tabIs h w' (hu.below (Nat.le_refl _) (fun _ h => h.elim))

set_option maxRecDepth 100000 in
set_option maxHeartbeats 2000000 in
theorem known_any (w : World) (htab : Lib.TabIs Tryd.prog w "strings.asciiSpace" .u8 Lib.asciiSpaceTab) :
    Calls Tryd.prog 5 #[] w fun e w' => e = .returned (.bool true) ∧ Upd none_ w w' := by
  have HC1 := Lib.hid (check_k 2 0 1 1 chk_cut1)
  have HT := Lib.hid htab
  clear htab
  go_enter Tryd.func5, Tryd.ntmps5
  go_wp2_with fail
  refine (enc_cut _).mono ?_
  rintro e w1 ⟨A1, c1, rfl, hb1, hu1⟩
  go_wp2_with fail
  refine (enc_stop _).mono ?_
  rintro e w2 ⟨A2, c2, rfl, hb2, hu2⟩
  replace hb1 := Rd.alloc (Rd.upd hb1 hu2 (fun _ h => h.elim)) (.cells #[.int .u8 2] 5)
  have hs1 : Bs (w2.alloc (.cells #[.int .u8 2] 5)) (· = w2.heap.size) (some ⟨w2.heap.size, 0, none⟩) [2] :=
    ⟨rfl, fun _ => ⟨_, rfl, rfl, World.news_of_block (cs := #[.int .u8 2]) (heap_alloc_new w2 (.cells #[.int .u8 2] 5))⟩⟩
  replace hb2 := Rd.alloc hb2 (.cells #[.int .u8 2] 5)
  have hU : Upd none_ w (w2.alloc (.cells #[.int .u8 2] 5)) := (hu1.trans hu2).alloc _
  have HS := Lib.hid (fun c d => same_any A1 _ c d [2] [2] _ _ _ hb1 hs1 (by simp))
  clear hb1 hs1 hu1 hu2
  go_wp2_with fail
  refine (HS.out _ _).mono ?_
  rintro e w3 ⟨rfl, hd3⟩
  replace hb2 := Rd.alloc (Rd.upd hb2 (hd3.upd none_) (fun _ h => h.elim)) (.cells #[.int .u8 8, .int .u8 1] 5)
  have hs2 : Bs (w3.alloc (.cells #[.int .u8 8, .int .u8 1] 5)) (· = w3.heap.size) (some ⟨w3.heap.size, 0, none⟩) [8, 1] :=
    ⟨rfl, fun _ => ⟨_, rfl, rfl, World.news_of_block (cs := #[.int .u8 8, .int .u8 1]) (heap_alloc_new w3 (.cells #[.int .u8 8, .int .u8 1] 5))⟩⟩
  replace hU := (hU.trans (hd3.upd none_)).alloc (.cells #[.int .u8 8, .int .u8 1] 5)
  clear HS hd3
  have HS := Lib.hid (fun c d => same_any A2 _ c d [8, 1] [8, 1] _ _ _ hb2 hs2 (by simp))
  clear hb2 hs2
  go_wp2_with fail
  refine (HS.out _ _).mono ?_
  rintro e w4 ⟨rfl, hd4⟩
  replace hU := hU.trans (hd4.upd none_)
  clear HS hd4
  go_wp2_with fail
  refine (HC1.out _).mono ?_
  rintro e w5 ⟨rfl, hu5⟩
  replace hU := hU.trans hu5
  clear HC1 hu5
  have HW := Lib.hid (word_leg w5 (tab_upd HT.out hU))
  clear HT
  go_wp2_with fail
  refine HW.out.mono ?_
  rintro e w6 ⟨rfl, hu6⟩
  go_wp2
  go_ret
  exact ⟨rfl, hU.trans hu6⟩
end Go.Proofs.YtpffaenjphnfiaaDoor
