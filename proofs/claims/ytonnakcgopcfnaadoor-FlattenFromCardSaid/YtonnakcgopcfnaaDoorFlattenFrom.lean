
/- FlattenFrom: for any automaton the law returns true and the argument reads as it did. No condition. -/
import Derived.Test.YtonnakcgopcfnaaDoorJuniperZQ
set_option linter.unusedSimpArgs false
set_option linter.unusedVariables false
set_option linter.all false
namespace Go.Proofs.YtonnakcgopcfnaaDoor
open Go.ChangeShapes Go.WideShapes Go.ChangeAt Go.RowKit
set_option maxRecDepth 100000
theorem flattenFrom_lifted (os : Os) (started : os.Started) (H : Type) (enc : TypeId × Value → H) :
    ReturnsInHanded {} Tryd.checked os 12 .any (fun w args => (Rows.flattenFromSpec.pre enc Tryd.prog Tryd.f12 Rows.flattenFromRow.domain false w args ∧ laidMetH Tryd.prog Rows.flattenFromRow.laid w) ∧ sizedMet enc Tryd.prog Tryd.f12 (OpenSpec.ofChange Rows.flattenFromSpec) false w args)
      (Rows.flattenFromSpec.post enc Tryd.prog Tryd.f12 false true false false) := by
  refine returnsInHanded_of_change_and (C := Tryd.checked) (X := fun w _ => laidMetH Tryd.prog Rows.flattenFromRow.laid w) (fun _ _ _ hh h => h.of_heap hh) Tryd.own started (by kernel_rfl) Tryd.func12
    (ChangeSpec.witness_shaped (enc := enc) (C := Tryd.checked) (os := os) (X := fun w _ => laidMetH Tryd.prog Rows.flattenFromRow.laid w) false (World.laidAll Tryd.prog os Rows.flattenFromRow.laid) #[.agg #[.slice none 0 0, .int .i64 0, .slice none 0 0, .slice none 0 0]] 8 (World.laidAll_os _ _ _)
      (World.shaped_of_ZipB (by kernel_rfl) (by kernel_rfl)) (by kernel_rfl) (by kernel_rfl) (by kernel_rfl)
      (by rw [MakeChecks.laidMetH_plain _ _ _ (by kernel_rfl)]; exact laidMet_laidAll _ (by kernel_rfl) (by kernel_rfl))) ?_
  intro W base args ds gs before hval0 hW hc _ hL _
  have hval : ∀ (j : Nat) t v, Tryd.f12.params[j]? = some t → args[j]? = some v → Value.okWide Tryd.prog W .any base t v := hval0
  have hW' := hW
  obtain ⟨p, q, hA0, hV, rfl, _, _⟩ := hW
  have hA : DataW.TrodAll enc Tryd.prog W 0 (fun _ => true) true Tryd.f12.params.toList args.toList ds p := hA0
  rw [Tryd.params12] at hA hval
  obtain ⟨v0, d0, rfl, rfl, h0⟩ := trodAll_one hA
  obtain ⟨rfl, rfl⟩ := trodVars_none hV
  obtain ⟨a0, q0, r0⟩ := open_aut (hval 0 106 v0 rfl rfl) h0
  obtain ⟨ty, fr, ht⟩ := tab_of_laid hL
  simp only [List.append_nil] at hW'
  refine (calls_of (K := KW W) ht Tryd.call12 (AI.from12 isTab0 [] a0 q0.e q0.a q0.m) (KW_ok W) (fun ρ sh => .cons (r0 ρ sh) .nil)).mono fun e W' ⟨he, hold, hos, hout⟩ => ?_
  subst he
  refine ⟨_, rfl, _, _, _, [], p, [], hW', ?_, ?_, ?_, kept_of hold hos hout, fun h => absurd h (by decide)⟩
  · exact trodAll_mk1 (shut_bool Tryd.underlying4 true)
  · exact trodAll_mk1 (args_again (by kernel_rfl) (by kernel_rfl) (by kernel_rfl) h0 hold)
  · rfl
theorem flattenFrom_holds : Rows.FlattenFromSaid :=
  OpenClaim.holds_of_wide 12 Tryd.f12 rfl rfl rfl rfl rfl rfl rfl ⟨rfl, rfl, rfl, rfl, rfl⟩ rfl rfl rfl rfl rfl (by kernel_rfl) Tryd.func12 (by kernel_rfl)
    (of_decide_eq_true (by kernel_rfl)) (by unfold Func.isWrapper; first | (rw [if_pos (by decide +kernel)]; kernel_rfl) | (rw [if_neg (by decide +kernel)]; exact ⟨rfl, rfl⟩))
    (fun os started H enc _ => flattenFrom_lifted os started H enc)
theorem flattenFrom_card : Rows.FlattenFromCardSaid :=
  Claim7.holds_tied_plain_at .later [] [.data, .data, .data] true (true, "f192b8316d1a0a9ddb0467847558dca0731738cbe74d3c04634dce4c51f3c221") false flattenFrom_holds (fun _ h => by cases h) (by kernel_rfl) (fun _ h => by cases h) flattenFrom_row_tie rfl ⟨rfl, rfl⟩ (by kernel_rfl) rfl
    (fun f fn hf hfn => by
      obtain rfl : f = 12 := Option.some.inj ((show Tryd.prog.funcNamed "overseer/overseerlaw19.FlattenFrom" = some 12 by kernel_rfl).symm.trans hf) |>.symm
      obtain rfl : fn = Tryd.f12 := (Option.some.inj (Tryd.func12.symm.trans hfn)).symm
      exact ⟨by kernel_rfl, fun j t ht => by
        rw [Tryd.params12] at ht
        have hm : t ∈ [106] := by simpa using Array.mem_of_getElem? ht
        have hall : ([106].all fun u => !Tryd.prog.wantsStandIn u) = true := by kernel_rfl
        exact (show Tryd.prog.wantsStandIn t = false by simpa using List.all_eq_true.1 hall t hm)⟩)
    (by kernel_rfl)
end Go.Proofs.YtonnakcgopcfnaaDoor
