
/- ElaborateCells: for any sketched model, the law returns true and the argument reads as it did. No condition. -/
import Derived.Test.YtnojpbbaohoadaaGreatDoorGnuZG
set_option linter.unusedSimpArgs false
set_option linter.unusedVariables false
set_option linter.all false
namespace Go.Proofs.YtnojpbbaohoadaaGreatDoor
open Go.ChangeShapes Go.WideShapes Go.ChangeAt Go.RowKit
set_option maxRecDepth 100000
theorem zd6 (os : Os) (started : os.Started) (H : Type) (enc : TypeId × Value → H) :
  ReturnsInHanded {} Tryz.checked os 6 .any (fun w args => (Rows.elaborateCellsSpec.pre enc Tryz.prog Tryz.f6 Rows.elaborateCellsRow.domain false w args ∧ laidMetH Tryz.prog Rows.elaborateCellsRow.laid w) ∧ sizedMet enc Tryz.prog Tryz.f6 (OpenSpec.ofChange Rows.elaborateCellsSpec) false w args)
   (Rows.elaborateCellsSpec.post enc Tryz.prog Tryz.f6 false true false false) := by
 refine returnsInHanded_of_change_and (C := Tryz.checked) (X := fun w _ => laidMetH Tryz.prog Rows.elaborateCellsRow.laid w) (fun _ _ _ hh h => h.of_heap hh) Tryz.own started (by kernel_rfl) Tryz.func6
  (ChangeSpec.witness_shaped (enc := enc) (C := Tryz.checked) (os := os) (X := fun w _ => laidMetH Tryz.prog Rows.elaborateCellsRow.laid w) false (World.laidAll Tryz.prog os Rows.elaborateCellsRow.laid) #[.agg #[.slice none 0 0, .slice none 0 0, .slice none 0 0, .int .i8 0]] 8 (World.laidAll_os _ _ _)
   (World.shaped_of_ZipB (by kernel_rfl) (by kernel_rfl)) (by kernel_rfl) (by kernel_rfl) (by kernel_rfl)
   (by rw [MakeChecks.laidMetH_plain _ _ _ (by kernel_rfl)]; exact laidMet_laidAll _ (by kernel_rfl) (by kernel_rfl))) ?_
 intro W base args ds gs before hval0 hW hc _ hL _
 have hval : ∀ (j : Nat) t v, Tryz.f6.params[j]? = some t → args[j]? = some v → Value.okWide Tryz.prog W .any base t v := hval0
 have hW' := hW
 obtain ⟨p, q, hA0, hV, rfl, _, _⟩ := hW
 have hA : DataW.TrodAll enc Tryz.prog W 0 (fun _ => true) true Tryz.f6.params.toList args.toList ds p := hA0
 rw [Tryz.params6] at hA hval
 obtain ⟨v0, d0, rfl, rfl, h0⟩ := trodAll_one hA
 obtain ⟨rfl, rfl⟩ := trodVars_none hV
 obtain ⟨a0, q0, r0⟩ := zsP (hval 0 27 v0 rfl rfl) h0
 obtain ⟨ty, fr, ht⟩ := zlE hL
 simp only [List.append_nil] at hW'
 refine (zwP (K := KW W) ht Tryz.call6 (AI.zzM zzx [] a0 q0) (zAd W) (fun ρ sh => .cons (r0 ρ sh) .nil)).mono fun e W' ⟨he, hold, hos, hout⟩ => ?_
 subst he
 refine ⟨_, rfl, _, _, _, [], p, [], hW', ?_, ?_, ?_, zyA hold hos hout, fun h => absurd h (by decide)⟩
 ·exact trodAll_mk1 (shut_bool Tryz.underlying4 true)
 ·exact trodAll_mk1 (zrk zdn (by kernel_rfl) (by kernel_rfl) h0 hold)
 ·rfl
theorem zew : Rows.ElaborateCellsSaid :=
 OpenClaim.holds_of_wide 6 Tryz.f6 rfl rfl rfl rfl rfl rfl rfl ⟨rfl, rfl, rfl, rfl, rfl⟩ rfl rfl rfl rfl rfl (by kernel_rfl) Tryz.func6 zd7
  (of_decide_eq_true (by kernel_rfl)) (by unfold Func.isWrapper; first | (rw [if_pos (by decide +kernel)]; kernel_rfl) | (rw [if_neg (by decide +kernel)]; exact ⟨rfl, rfl⟩))
  (fun os started H enc _ => zd6 os started H enc)
theorem elaborateCells_card : Rows.ElaborateCellsCardSaid :=
 Claim7.holds_tied_plain_at .later [] [.data, .data, .data] true (true, "9aa124d96d2f2fea36404c3e6649a1942013d744947b2e2ae648d5b84282eb38") false zew (fun _ h => by cases h) (by kernel_rfl) (fun _ h => by cases h) elaborateCells_row_tie rfl ⟨rfl, rfl⟩ zeY rfl
  (fun f fn hf hfn => by
   obtain rfl : f = 6 := Option.some.inj ((show Tryz.prog.funcNamed "overseer/overseerlaw22.ElaborateCells" = some 6 by kernel_rfl).symm.trans hf) |>.symm
   obtain rfl : fn = Tryz.f6 := (Option.some.inj (Tryz.func6.symm.trans hfn)).symm
   exact ⟨zev, fun j t ht => by
    rw [Tryz.params6] at ht
    have hm : t ∈ [27] := by simpa using Array.mem_of_getElem? ht
    have hall : ([27].all fun u => !Tryz.prog.wantsStandIn u) = true := by kernel_rfl
    exact (show Tryz.prog.wantsStandIn t = false by simpa using List.all_eq_true.1 hall t hm)⟩)
  zeZ
end Go.Proofs.YtnojpbbaohoadaaGreatDoor
