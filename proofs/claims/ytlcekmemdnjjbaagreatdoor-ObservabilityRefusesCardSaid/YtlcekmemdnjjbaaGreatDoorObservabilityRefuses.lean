
/- ObservabilityRefuses: for any system, the law returns true and the argument reads as it did. No condition. -/
import Derived.Test.YtlcekmemdnjjbaaGreatDoorOakZD
set_option linter.unusedSimpArgs false
set_option linter.unusedVariables false
set_option linter.all false
namespace Go.Proofs.YtlcekmemdnjjbaaGreatDoor
open Go.ChangeShapes Go.WideShapes Go.ChangeAt Go.RowKit
set_option maxRecDepth 100000
theorem observabilityRefuses_lifted (os : Os) (started : os.Started) (H : Type) (enc : TypeId × Value → H) :
    ReturnsInHanded {} Tryz.checked os 6 .any (fun w args => (Rows.observabilityRefusesSpec.pre enc Tryz.prog Tryz.f6 Rows.observabilityRefusesRow.domain false w args ∧ laidMetH Tryz.prog Rows.observabilityRefusesRow.laid w) ∧ sizedMet enc Tryz.prog Tryz.f6 (OpenSpec.ofChange Rows.observabilityRefusesSpec) false w args)
      (Rows.observabilityRefusesSpec.post enc Tryz.prog Tryz.f6 false true false false) := by
  refine returnsInHanded_of_change_and (C := Tryz.checked) (X := fun w _ => laidMetH Tryz.prog Rows.observabilityRefusesRow.laid w) (fun _ _ _ hh h => h.of_heap hh) Tryz.own started (by kernel_rfl) Tryz.func6
    (ChangeSpec.witness_shaped (enc := enc) (C := Tryz.checked) (os := os) (X := fun w _ => laidMetH Tryz.prog Rows.observabilityRefusesRow.laid w) false (World.laidAll Tryz.prog os Rows.observabilityRefusesRow.laid) #[.agg #[.slice none 0 0, .int .i64 0, .slice none 0 0, .slice none 0 0, .slice none 0 0, .int .i64 0, .slice none 0 0, .slice none 0 0, .slice none 0 0, .slice none 0 0]] 8 (World.laidAll_os _ _ _)
      (World.shaped_of_ZipB (by kernel_rfl) (by kernel_rfl)) (by kernel_rfl) (by kernel_rfl) (by kernel_rfl)
      (by rw [MakeChecks.laidMetH_plain _ _ _ (by kernel_rfl)]; exact laidMet_laidAll _ (by kernel_rfl) (by kernel_rfl))) ?_
  intro W base args ds gs before hval0 hW hc _ hL _
  have hval : ∀ (j : Nat) t v, Tryz.f6.params[j]? = some t → args[j]? = some v → Value.okWide Tryz.prog W .any base t v := hval0
  have hW' := hW
  obtain ⟨p, q, hA0, hV, rfl, _, _⟩ := hW
  have hA : DataW.TrodAll enc Tryz.prog W 0 (fun _ => true) true Tryz.f6.params.toList args.toList ds p := hA0
  rw [Tryz.params6] at hA hval
  obtain ⟨v0, d0, rfl, rfl, h0⟩ := trodAll_one hA
  obtain ⟨rfl, rfl⟩ := trodVars_none hV
  obtain ⟨a0, q0, r0⟩ := open_sys (hval 0 41 v0 rfl rfl) h0
  obtain ⟨ty, fr, ht⟩ := tab_of_laid hL
  simp only [List.append_nil] at hW'
  refine (calls_of (K := KW W) ht Tryz.call6 (AI.refuses6 isTab0 [] a0) (KW_ok W) (fun ρ sh => .cons (r0 ρ sh) .nil)).mono fun e W' ⟨he, hold, hos, hout⟩ => ?_
  subst he
  refine ⟨_, rfl, _, _, _, [], p, [], hW', ?_, ?_, ?_, kept_of hold hos hout, fun h => absurd h (by decide)⟩
  · exact trodAll_mk1 (shut_bool Tryz.underlying4 true)
  · exact trodAll_mk1 (args_again (by kernel_rfl) (by kernel_rfl) (by kernel_rfl) h0 hold)
  · rfl
theorem observabilityRefuses_holds : Rows.ObservabilityRefusesSaid :=
  OpenClaim.holds_of_wide 6 Tryz.f6 rfl rfl rfl rfl rfl rfl rfl ⟨rfl, rfl, rfl, rfl, rfl⟩ rfl rfl rfl rfl rfl (by kernel_rfl) Tryz.func6 (by kernel_rfl)
    (of_decide_eq_true (by kernel_rfl)) (by unfold Func.isWrapper; first | (rw [if_pos (by decide +kernel)]; kernel_rfl) | (rw [if_neg (by decide +kernel)]; exact ⟨rfl, rfl⟩))
    (fun os started H enc _ => observabilityRefuses_lifted os started H enc)
theorem observabilityRefuses_card : Rows.ObservabilityRefusesCardSaid :=
  Claim7.holds_tied_plain_at .later [] [.data, .data, .data] true (true, "5041c38c3c15c3199033450f7632fe41f4871cb850793ec5542bbc9f8af1fc7c") false observabilityRefuses_holds (fun _ h => by cases h) (by kernel_rfl) (fun _ h => by cases h) observabilityRefuses_row_tie rfl ⟨rfl, rfl⟩ (by kernel_rfl) rfl
    (fun f fn hf hfn => by
      obtain rfl : f = 6 := Option.some.inj ((show Tryz.prog.funcNamed "overseer/overseerlaw37.ObservabilityRefuses" = some 6 by kernel_rfl).symm.trans hf) |>.symm
      obtain rfl : fn = Tryz.f6 := (Option.some.inj (Tryz.func6.symm.trans hfn)).symm
      exact ⟨by kernel_rfl, fun j t ht => by
        rw [Tryz.params6] at ht
        have hm : t ∈ [41] := by simpa using Array.mem_of_getElem? ht
        have hall : ([41].all fun u => !Tryz.prog.wantsStandIn u) = true := by kernel_rfl
        exact (show Tryz.prog.wantsStandIn t = false by simpa using List.all_eq_true.1 hall t hm)⟩)
    (by kernel_rfl)
end Go.Proofs.YtlcekmemdnjjbaaGreatDoor
