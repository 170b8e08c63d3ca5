
/- ElaborateRenames: for any sketched model and any small number, the law returns true and the arguments read as they did. No condition. -/
import Derived.Test.YtnojpbbaohoadaaGreatDoorKobZE
set_option linter.unusedSimpArgs false
set_option linter.unusedVariables false
set_option linter.all false
namespace Go.Proofs.YtnojpbbaohoadaaGreatDoor
open Go.ChangeShapes Go.WideShapes Go.ChangeAt Go.RowKit
set_option maxRecDepth 100000
theorem zdj (os : Os) (started : os.Started) (H : Type) (enc : TypeId × Value → H) :
  ReturnsInHanded {} Tryz.checked os 7 .any (fun w args => (Rows.elaborateRenamesSpec.pre enc Tryz.prog Tryz.f7 Rows.elaborateRenamesRow.domain false w args ∧ laidMetH Tryz.prog Rows.elaborateRenamesRow.laid w) ∧ sizedMet enc Tryz.prog Tryz.f7 (OpenSpec.ofChange Rows.elaborateRenamesSpec) false w args)
   (Rows.elaborateRenamesSpec.post enc Tryz.prog Tryz.f7 false true false false) := by
 refine returnsInHanded_of_change_and (C := Tryz.checked) (X := fun w _ => laidMetH Tryz.prog Rows.elaborateRenamesRow.laid w) (fun _ _ _ hh h => h.of_heap hh) Tryz.own started (by kernel_rfl) Tryz.func7
  (ChangeSpec.witness_shaped (enc := enc) (C := Tryz.checked) (os := os) (X := fun w _ => laidMetH Tryz.prog Rows.elaborateRenamesRow.laid w) false (World.laidAll Tryz.prog os Rows.elaborateRenamesRow.laid) #[.agg #[.slice none 0 0, .slice none 0 0, .slice none 0 0, .int .i8 0], .int .u8 0] 8 (World.laidAll_os _ _ _)
   (World.shaped_of_ZipB (by kernel_rfl) (by kernel_rfl)) (by kernel_rfl) (by kernel_rfl) (by kernel_rfl)
   (by rw [MakeChecks.laidMetH_plain _ _ _ (by kernel_rfl)]; exact laidMet_laidAll _ (by kernel_rfl) (by kernel_rfl))) ?_
 intro W base args ds gs before hval0 hW hc _ hL _
 have hval : ∀ (j : Nat) t v, Tryz.f7.params[j]? = some t → args[j]? = some v → Value.okWide Tryz.prog W .any base t v := hval0
 have hW' := hW
 obtain ⟨p, q, hA0, hV, rfl, _, _⟩ := hW
 have hA : DataW.TrodAll enc Tryz.prog W 0 (fun _ => true) true Tryz.f7.params.toList args.toList ds p := hA0
 rw [Tryz.params7] at hA hval
 obtain ⟨v0, v1, d0, d1, p0, p1, rfl, rfl, rfl, h0, h1⟩ := trodAll_two hA
 obtain ⟨rfl, rfl⟩ := trodVars_none hV
 obtain ⟨a0, q0, r0⟩ := zrw (hval 0 27 v0 rfl rfl) h0
 obtain ⟨a1, q1, r1⟩ := zuq (hval 1 5 v1 rfl rfl) h1
 obtain ⟨ty, fr, ht⟩ := zkB hL
 simp only [List.append_nil] at hW'
 refine (zvi (K := KW W) ht Tryz.call7 (AI.zt7 zye [] a0 a1 q0 q1) (zyR W) (fun ρ sh => .cons (r0 ρ sh) (.cons (r1 ρ sh) .nil))).mono fun e W' ⟨he, hold, hos, hout⟩ => ?_
 subst he
 refine ⟨_, rfl, _, _, _, [], p0 ++ p1, [], hW', ?_, ?_, ?_, zxc hold hos hout, fun h => absurd h (by decide)⟩
 ·exact trodAll_mk1 (shut_bool Tryz.underlying4 true)
 ·exact trodAll_mk2 (zh9 zbM (by kernel_rfl) (by kernel_rfl) h0 hold) (zh9 zbM (by kernel_rfl) (by kernel_rfl) h1 hold)
 ·rfl
theorem zdq : Rows.ElaborateRenamesSaid :=
 OpenClaim.holds_of_wide 7 Tryz.f7 rfl rfl rfl rfl rfl rfl rfl ⟨rfl, rfl, rfl, rfl, rfl⟩ rfl rfl rfl rfl rfl (by kernel_rfl) Tryz.func7 zdk
  (of_decide_eq_true (by kernel_rfl)) (by unfold Func.isWrapper; first | (rw [if_pos (by decide +kernel)]; kernel_rfl) | (rw [if_neg (by decide +kernel)]; exact ⟨rfl, rfl⟩))
  (fun os started H enc _ => zdj os started H enc)
theorem elaborateRenames_card : Rows.ElaborateRenamesCardSaid :=
 Claim7.holds_tied_plain_at .later [] [.data, .data, .data] true (true, "9aa124d96d2f2fea36404c3e6649a1942013d744947b2e2ae648d5b84282eb38") false zdq (fun _ h => by cases h) (by kernel_rfl) (fun _ h => by cases h) elaborateRenames_row_tie rfl ⟨rfl, rfl⟩ zdJ rfl
  (fun f fn hf hfn => by
   obtain rfl : f = 7 := Option.some.inj ((show Tryz.prog.funcNamed "overseer/overseerlaw22.ElaborateRenames" = some 7 by kernel_rfl).symm.trans hf) |>.symm
   obtain rfl : fn = Tryz.f7 := (Option.some.inj (Tryz.func7.symm.trans hfn)).symm
   exact ⟨zdp, fun j t ht => by
    rw [Tryz.params7] at ht
    have hm : t ∈ [27, 5] := by simpa using Array.mem_of_getElem? ht
    have hall : ([27, 5].all fun u => !Tryz.prog.wantsStandIn u) = true := by kernel_rfl
    exact (show Tryz.prog.wantsStandIn t = false by simpa using List.all_eq_true.1 hall t hm)⟩)
  zdK
end Go.Proofs.YtnojpbbaohoadaaGreatDoor
