/- ExtendedLimits: of a counter up to any number from 1 to 65535, the law returns true and the number reads as it did. No condition. -/
import Derived.Test.YtbknncolmohdlaaDoorLayerK
set_option linter.unusedSimpArgs false
set_option linter.unusedVariables false
set_option linter.all false
namespace Go.Proofs.YtbknncolmohdlaaDoor
open Go.ChangeShapes Go.WideShapes Go.ChangeAt Go.RowKit
set_option maxRecDepth 100000
theorem limits_lifted (os : Os) (started : os.Started) (H : Type) (enc : TypeId × Value → H) :
    ReturnsInHanded {} Tryd.checked os 3 .any (fun w args => (Rows.extendedLimitsSpec.pre enc Tryd.prog Tryd.f3 Rows.extendedLimitsRow.domain false w args ∧ laidMetH Tryd.prog Rows.extendedLimitsRow.laid w) ∧ sizedMet enc Tryd.prog Tryd.f3 (OpenSpec.ofChange Rows.extendedLimitsSpec) false w args)
      (Rows.extendedLimitsSpec.post enc Tryd.prog Tryd.f3 false true false false) := by
  refine returnsInHanded_of_change_and (C := Tryd.checked) (X := fun w _ => laidMetH Tryd.prog Rows.extendedLimitsRow.laid w) (fun _ _ _ hh h => h.of_heap hh) Tryd.own started (by kernel_rfl) Tryd.func3
    (ChangeSpec.witness_shaped (enc := enc) (C := Tryd.checked) (os := os) (X := fun w _ => laidMetH Tryd.prog Rows.extendedLimitsRow.laid w) false (World.laidAll Tryd.prog os Rows.extendedLimitsRow.laid) #[.int .u16 0] 8 (World.laidAll_os _ _ _)
      (World.shaped_of_ZipB (by kernel_rfl) (by kernel_rfl)) (by kernel_rfl) (by kernel_rfl) (by kernel_rfl)
      (by rw [MakeChecks.laidMetH_plain _ _ _ (by kernel_rfl)]; exact laidMet_laidAll _ (by kernel_rfl) (by kernel_rfl))) ?_
  intro W base args ds gs before hval0 hW hc _ hL _
  have hval : ∀ (j : Nat) t v, Tryd.f3.params[j]? = some t → args[j]? = some v → Value.okWide Tryd.prog W .any base t v := hval0
  have hW' := hW
  obtain ⟨p, q, hA0, hV, rfl, _, _⟩ := hW
  have hA : DataW.TrodAll enc Tryd.prog W 0 (fun _ => true) true Tryd.f3.params.toList args.toList ds p := hA0
  rw [Tryd.params3] at hA hval
  obtain ⟨v0, d0, rfl, rfl, h0⟩ := trodAll_one hA
  obtain ⟨rfl, rfl⟩ := trodVars_none hV
  obtain ⟨x, rfl, rfl, rfl, wx⟩ := open_int Tryd.underlying22 (hval 0 22 v0 rfl rfl) h0
  obtain ⟨n, rfl, hn⟩ : ∃ n : Nat, x = n ∧ n < 65536 := by
    have w := wx
    simp only [Lit.wf, Bool.and_eq_true, decide_eq_true_eq] at w
    have e1 : IntKind.u16.min = 0 := rfl
    have e2 : IntKind.u16.max = 65535 := rfl
    rw [e1, e2] at w
    exact ⟨x.toNat, by omega, by omega⟩
  obtain ⟨ty, fr, ht⟩ := tab_of_laid hL
  simp only [List.append_nil] at hW'
  refine (calls_of (K := fun _ _ => none) ht Tryd.call3 (AI.limits3 isTab0 [] n hn) (fun _ _ _ e => absurd e (by simp)) (fun _ _ => .cons (.i (.v rfl)) .nil)).mono fun e W' ⟨he, hold, hos, hout⟩ => ?_
  subst he
  refine ⟨_, rfl, _, _, _, [], [], [], hW', ?_, ?_, ?_, kept_of hold hos hout, fun h => absurd h (by decide)⟩
  · exact trodAll_mk1 (shut_bool Tryd.underlying4 true)
  · exact trodAll_mk1 (shut_int Tryd.underlying22 wx)
  · rfl
theorem limits_holds : Rows.ExtendedLimitsSaid :=
  OpenClaim.holds_of_wide 3 Tryd.f3 rfl rfl rfl rfl rfl rfl rfl ⟨rfl, rfl, rfl, rfl, rfl⟩ rfl rfl rfl rfl rfl (by kernel_rfl) Tryd.func3 (by kernel_rfl)
    (of_decide_eq_true (by kernel_rfl)) (by unfold Func.isWrapper; first | (rw [if_pos (by decide +kernel)]; kernel_rfl) | (rw [if_neg (by decide +kernel)]; exact ⟨rfl, rfl⟩))
    (fun os started H enc _ => limits_lifted os started H enc)
theorem limits_card : Rows.ExtendedLimitsCardSaid :=
  Claim7.holds_tied_plain_at .later [] [.data, .data, .data] true (true, "e602e6eabebc1169a142b478a9fbcff0edd02fcaa2e2ad1b6da088f189d2c0f5") false limits_holds (fun _ h => by cases h) (by kernel_rfl) (fun _ h => by cases h) extendedLimits_row_tie rfl ⟨rfl, rfl⟩ (by kernel_rfl) rfl
    (fun f fn hf hfn => by
      obtain rfl : f = 3 := Option.some.inj ((show Tryd.prog.funcNamed "overseer/overseerlaw18.ExtendedLimits" = some 3 by kernel_rfl).symm.trans hf) |>.symm
      obtain rfl : fn = Tryd.f3 := (Option.some.inj (Tryd.func3.symm.trans hfn)).symm
      exact ⟨by kernel_rfl, fun j t ht => by
        rw [Tryd.params3] at ht
        have hm : t ∈ [22] := by simpa using Array.mem_of_getElem? ht
        have hall : ([22].all fun u => !Tryd.prog.wantsStandIn u) = true := by kernel_rfl
        exact (show Tryd.prog.wantsStandIn t = false by simpa using List.all_eq_true.1 hall t hm)⟩)
    (by kernel_rfl)
end Go.Proofs.YtbknncolmohdlaaDoor
