
/- ObserverpropertyRefutes: for any graph over any set of events, any sets onto and uncontrollable, any word and any observation, the law returns true and the arguments read as they did. No condition. -/
import Derived.Test.YtmhllkmceipdcaaGreatDoorElmZW
set_option linter.unusedSimpArgs false
set_option linter.unusedVariables false
set_option linter.all false
namespace Go.Proofs.YtmhllkmceipdcaaGreatDoor
open Go.ChangeShapes Go.WideShapes Go.ChangeAt Go.RowKit
set_option maxRecDepth 100000
theorem observerpropertyRefutes_lifted (os : Os) (started : os.Started) (H : Type) (enc : TypeId × Value → H) :
    ReturnsInHanded {} Tryz.checked os 8 .any (fun w args => (Rows.observerpropertyRefutesSpec.pre enc Tryz.prog Tryz.f8 Rows.observerpropertyRefutesRow.domain false w args ∧ laidMetH Tryz.prog Rows.observerpropertyRefutesRow.laid w) ∧ sizedMet enc Tryz.prog Tryz.f8 (OpenSpec.ofChange Rows.observerpropertyRefutesSpec) false w args)
      (Rows.observerpropertyRefutesSpec.post enc Tryz.prog Tryz.f8 false true false false) := by
  refine returnsInHanded_of_change_and (C := Tryz.checked) (X := fun w _ => laidMetH Tryz.prog Rows.observerpropertyRefutesRow.laid w) (fun _ _ _ hh h => h.of_heap hh) Tryz.own started (by kernel_rfl) Tryz.func8
    (ChangeSpec.witness_shaped (enc := enc) (C := Tryz.checked) (os := os) (X := fun w _ => laidMetH Tryz.prog Rows.observerpropertyRefutesRow.laid w) false (World.laidAll Tryz.prog os Rows.observerpropertyRefutesRow.laid) #[.agg #[.int .u8 0, .int .u8 0, .int .u8 0], .agg #[.int .u8 0, .int .u8 0, .int .u8 0, .int .u8 0, .int .u8 0, .int .u8 0, .int .u8 0, .int .u8 0, .int .u8 0, .int .u8 0, .int .u8 0, .int .u8 0, .int .u8 0, .int .u8 0, .int .u8 0, .int .u8 0, .int .u8 0, .int .u8 0, .int .u8 0, .int .u8 0, .int .u8 0, .int .u8 0, .int .u8 0, .int .u8 0, .int .u8 0, .int .u8 0, .int .u8 0], .agg #[.slice none 0 0, .slice none 0 0]] 8 (World.laidAll_os _ _ _)
      (World.shaped_of_ZipB (by kernel_rfl) (by kernel_rfl)) (by kernel_rfl) (by kernel_rfl) (by kernel_rfl)
      (by rw [MakeChecks.laidMetH_plain _ _ _ (by kernel_rfl)]; exact laidMet_laidAll _ (by kernel_rfl) (by kernel_rfl))) ?_
  intro W base args ds gs before hval0 hW hc _ hL _
  have hval : ∀ (j : Nat) t v, Tryz.f8.params[j]? = some t → args[j]? = some v → Value.okWide Tryz.prog W .any base t v := hval0
  have hW' := hW
  obtain ⟨p, q, hA0, hV, rfl, _, _⟩ := hW
  have hA : DataW.TrodAll enc Tryz.prog W 0 (fun _ => true) true Tryz.f8.params.toList args.toList ds p := hA0
  rw [Tryz.params8] at hA hval
  obtain ⟨v0, v1, v2, d0, d1, d2, p0, p1, p2, rfl, rfl, rfl, h0, h1, h2⟩ := trodAll_three hA
  obtain ⟨rfl, rfl⟩ := trodVars_none hV
  obtain ⟨a0, q0, r0⟩ := open_set3 (hval 0 23 v0 rfl rfl) h0
  obtain ⟨a1, q1, r1⟩ := open_graph (hval 1 27 v1 rfl rfl) h1
  obtain ⟨a2, q2, r2⟩ := open_two (hval 2 60 v2 rfl rfl) h2
  obtain ⟨ty, fr, ht⟩ := tab_of_laid hL
  simp only [List.append_nil] at hW'
  refine (calls_of (K := KW W) ht Tryz.call8 (AI.refutesL8 isTab0 [] a0.1 a0.2.1 a0.2.2 a1.1 a1.2.1 a1.2.2 a2.1 a2.2 q1 q2.1 q2.2) (KW_ok W) (fun ρ sh => .cons (r0 ρ sh) (.cons (r1 ρ sh) (.cons (r2 ρ sh) .nil)))).mono fun e W' ⟨he, hold, hos, hout⟩ => ?_
  subst he
  refine ⟨_, rfl, _, _, _, [], p0 ++ (p1 ++ p2), [], hW', ?_, ?_, ?_, kept_of hold hos hout, fun h => absurd h (by decide)⟩
  · exact trodAll_mk1 (shut_bool Tryz.underlying4 true)
  · exact trodAll_mk3 (args_again (by kernel_rfl) (by kernel_rfl) (by kernel_rfl) h0 hold) (args_again (by kernel_rfl) (by kernel_rfl) (by kernel_rfl) h1 hold) (args_again (by kernel_rfl) (by kernel_rfl) (by kernel_rfl) h2 hold)
  · rfl
theorem observerpropertyRefutes_holds : Rows.ObserverpropertyRefutesSaid :=
  OpenClaim.holds_of_wide 8 Tryz.f8 rfl rfl rfl rfl rfl rfl rfl ⟨rfl, rfl, rfl, rfl, rfl⟩ rfl rfl rfl rfl rfl (by kernel_rfl) Tryz.func8 (by kernel_rfl)
    (of_decide_eq_true (by kernel_rfl)) (by unfold Func.isWrapper; first | (rw [if_pos (by decide +kernel)]; kernel_rfl) | (rw [if_neg (by decide +kernel)]; exact ⟨rfl, rfl⟩))
    (fun os started H enc _ => observerpropertyRefutes_lifted os started H enc)
theorem observerpropertyRefutes_card : Rows.ObserverpropertyRefutesCardSaid :=
  Claim7.holds_tied_plain_at .later [] [.data, .data, .data] true (true, "b4b8d20f323c07a2e0011d90cfe26f08e9e82a9c49be057a626d172c03be83a4") false observerpropertyRefutes_holds (fun _ h => by cases h) (by kernel_rfl) (fun _ h => by cases h) observerpropertyRefutes_row_tie rfl ⟨rfl, rfl⟩ (by kernel_rfl) rfl
    (fun f fn hf hfn => by
      obtain rfl : f = 8 := Option.some.inj ((show Tryz.prog.funcNamed "overseer/overseerlaw35.ObserverpropertyRefutes" = some 8 by kernel_rfl).symm.trans hf) |>.symm
      obtain rfl : fn = Tryz.f8 := (Option.some.inj (Tryz.func8.symm.trans hfn)).symm
      exact ⟨by kernel_rfl, fun j t ht => by
        rw [Tryz.params8] at ht
        have hm : t ∈ [23, 27, 60] := by simpa using Array.mem_of_getElem? ht
        have hall : ([23, 27, 60].all fun u => !Tryz.prog.wantsStandIn u) = true := by kernel_rfl
        exact (show Tryz.prog.wantsStandIn t = false by simpa using List.all_eq_true.1 hall t hm)⟩)
    (by kernel_rfl)
end Go.Proofs.YtmhllkmceipdcaaGreatDoor
