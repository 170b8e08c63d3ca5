
/- ElaborateEquals: for any sketched model with any change, the law returns true and the arguments read as they did. No condition. -/
import Derived.Test.YtnojpbbaohoadaaGreatDoorIbxZG
set_option linter.unusedSimpArgs false
set_option linter.unusedVariables false
set_option linter.all false
namespace Go.Proofs.YtnojpbbaohoadaaGreatDoor
open Go.ChangeShapes Go.WideShapes Go.ChangeAt Go.RowKit
set_option maxRecDepth 100000
theorem zdD (os : Os) (started : os.Started) (H : Type) (enc : TypeId × Value → H) :
  ReturnsInHanded {} Tryz.checked os 9 .any (fun w args => (Rows.elaborateEqualsSpec.pre enc Tryz.prog Tryz.f9 Rows.elaborateEqualsRow.domain false w args ∧ laidMetH Tryz.prog Rows.elaborateEqualsRow.laid w) ∧ sizedMet enc Tryz.prog Tryz.f9 (OpenSpec.ofChange Rows.elaborateEqualsSpec) false w args)
   (Rows.elaborateEqualsSpec.post enc Tryz.prog Tryz.f9 false true false false) := by
 refine returnsInHanded_of_change_and (C := Tryz.checked) (X := fun w _ => laidMetH Tryz.prog Rows.elaborateEqualsRow.laid w) (fun _ _ _ hh h => h.of_heap hh) Tryz.own started (by kernel_rfl) Tryz.func9
  (ChangeSpec.witness_shaped (enc := enc) (C := Tryz.checked) (os := os) (X := fun w _ => laidMetH Tryz.prog Rows.elaborateEqualsRow.laid w) false (World.laidAll Tryz.prog os Rows.elaborateEqualsRow.laid) #[.agg #[.slice none 0 0, .slice none 0 0, .slice none 0 0, .int .i8 0], .agg #[.int .u8 0, .int .u8 0, .int .u8 0, .int .u8 0]] 8 (World.laidAll_os _ _ _)
   (World.shaped_of_ZipB (by kernel_rfl) (by kernel_rfl)) (by kernel_rfl) (by kernel_rfl) (by kernel_rfl)
   (by rw [MakeChecks.laidMetH_plain _ _ _ (by kernel_rfl)]; exact laidMet_laidAll _ (by kernel_rfl) (by kernel_rfl))) ?_
 intro W base args ds gs before hval0 hW hc _ hL _
 have hval : ∀ (j : Nat) t v, Tryz.f9.params[j]? = some t → args[j]? = some v → Value.okWide Tryz.prog W .any base t v := hval0
 have hW' := hW
 obtain ⟨p, q, hA0, hV, rfl, _, _⟩ := hW
 have hA : DataW.TrodAll enc Tryz.prog W 0 (fun _ => true) true Tryz.f9.params.toList args.toList ds p := hA0
 rw [Tryz.params9] at hA hval
 obtain ⟨v0, v1, d0, d1, p0, p1, rfl, rfl, rfl, h0, h1⟩ := trodAll_two hA
 obtain ⟨rfl, rfl⟩ := trodVars_none hV
 obtain ⟨a0, q0, r0⟩ := zrV (hval 0 27 v0 rfl rfl) h0
 obtain ⟨a1, q1, r1⟩ := zrU (hval 1 29 v1 rfl rfl) h1
 obtain ⟨ty, fr, ht⟩ := zkT hL
 simp only [List.append_nil] at hW'
 refine (zvX (K := KW W) ht Tryz.call9 (AI.zxP zyV [] a0 a1 q0 q1) (zzE W) (fun ρ sh => .cons (r0 ρ sh) (.cons (r1 ρ sh) .nil))).mono fun e W' ⟨he, hold, hos, hout⟩ => ?_
 subst he
 refine ⟨_, rfl, _, _, _, [], p0 ++ p1, [], hW', ?_, ?_, ?_, zxG hold hos hout, fun h => absurd h (by decide)⟩
 ·exact trodAll_mk1 (shut_bool Tryz.underlying4 true)
 ·exact trodAll_mk2 (zio zb9 (by kernel_rfl) (by kernel_rfl) h0 hold) (zio zb9 (by kernel_rfl) (by kernel_rfl) h1 hold)
 ·rfl
theorem zdT : Rows.ElaborateEqualsSaid :=
 OpenClaim.holds_of_wide 9 Tryz.f9 rfl rfl rfl rfl rfl rfl rfl ⟨rfl, rfl, rfl, rfl, rfl⟩ rfl rfl rfl rfl rfl (by kernel_rfl) Tryz.func9 zdE
  (of_decide_eq_true (by kernel_rfl)) (by unfold Func.isWrapper; first | (rw [if_pos (by decide +kernel)]; kernel_rfl) | (rw [if_neg (by decide +kernel)]; exact ⟨rfl, rfl⟩))
  (fun os started H enc _ => zdD os started H enc)
theorem elaborateEquals_card : Rows.ElaborateEqualsCardSaid :=
 Claim7.holds_tied_plain_at .later [] [.data, .data, .data] true (true, "9aa124d96d2f2fea36404c3e6649a1942013d744947b2e2ae648d5b84282eb38") false zdT (fun _ h => by cases h) (by kernel_rfl) (fun _ h => by cases h) elaborateEquals_row_tie rfl ⟨rfl, rfl⟩ zel rfl
  (fun f fn hf hfn => by
   obtain rfl : f = 9 := Option.some.inj ((show Tryz.prog.funcNamed "overseer/overseerlaw22.ElaborateEquals" = some 9 by kernel_rfl).symm.trans hf) |>.symm
   obtain rfl : fn = Tryz.f9 := (Option.some.inj (Tryz.func9.symm.trans hfn)).symm
   exact ⟨zdS, fun j t ht => by
    rw [Tryz.params9] at ht
    have hm : t ∈ [27, 29] := by simpa using Array.mem_of_getElem? ht
    have hall : ([27, 29].all fun u => !Tryz.prog.wantsStandIn u) = true := by kernel_rfl
    exact (show Tryz.prog.wantsStandIn t = false by simpa using List.all_eq_true.1 hall t hm)⟩)
  zem
end Go.Proofs.YtnojpbbaohoadaaGreatDoor
