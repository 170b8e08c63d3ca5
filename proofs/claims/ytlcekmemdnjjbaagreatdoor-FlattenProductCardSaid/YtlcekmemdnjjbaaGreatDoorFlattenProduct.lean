
/- FlattenProduct: for any three sets, any three graphs and any number, the law returns true and the arguments read as they did. No condition. -/
import Derived.Test.YtlcekmemdnjjbaaGreatDoorElkZB
set_option linter.unusedSimpArgs false
set_option linter.unusedVariables false
set_option linter.all false
namespace Go.Proofs.YtlcekmemdnjjbaaGreatDoor
open Go.ChangeShapes Go.WideShapes Go.ChangeAt Go.RowKit
set_option maxRecDepth 100000
theorem zda (os : Os) (started : os.Started) (H : Type) (enc : TypeId × Value → H) :
  ReturnsInHanded {} Tryz.checked os 7 .any (fun w args => (Rows.flattenProductSpec.pre enc Tryz.prog Tryz.f7 Rows.flattenProductRow.domain false w args ∧ laidMetH Tryz.prog Rows.flattenProductRow.laid w) ∧ sizedMet enc Tryz.prog Tryz.f7 (OpenSpec.ofChange Rows.flattenProductSpec) false w args)
   (Rows.flattenProductSpec.post enc Tryz.prog Tryz.f7 false true false false) := by
 refine returnsInHanded_of_change_and (C := Tryz.checked) (X := fun w _ => laidMetH Tryz.prog Rows.flattenProductRow.laid w) (fun _ _ _ hh h => h.of_heap hh) Tryz.own started (by kernel_rfl) Tryz.func7
  (ChangeSpec.witness_shaped (enc := enc) (C := Tryz.checked) (os := os) (X := fun w _ => laidMetH Tryz.prog Rows.flattenProductRow.laid w) false (World.laidAll Tryz.prog os Rows.flattenProductRow.laid) #[.agg #[.int .u8 0, .int .u8 0, .int .u8 0], .agg #[.int .u8 0, .int .u8 0, .int .u8 0, .int .u8 0, .int .u8 0, .int .u8 0, .int .u8 0, .int .u8 0, .int .u8 0, .int .u8 0, .int .u8 0, .int .u8 0, .int .u8 0, .int .u8 0, .int .u8 0, .int .u8 0, .int .u8 0, .int .u8 0, .int .u8 0, .int .u8 0, .int .u8 0, .int .u8 0, .int .u8 0, .int .u8 0, .int .u8 0, .int .u8 0, .int .u8 0, .int .u8 0, .int .u8 0, .int .u8 0, .int .u8 0, .int .u8 0, .int .u8 0, .int .u8 0, .int .u8 0, .int .u8 0, .int .u8 0, .int .u8 0, .int .u8 0, .int .u8 0, .int .u8 0, .int .u8 0, .int .u8 0, .int .u8 0, .int .u8 0, .int .u8 0, .int .u8 0, .int .u8 0, .int .u8 0, .int .u8 0, .int .u8 0, .int .u8 0, .int .u8 0, .int .u8 0, .int .u8 0, .int .u8 0, .int .u8 0, .int .u8 0, .int .u8 0, .int .u8 0, .int .u8 0, .int .u8 0, .int .u8 0, .int .u8 0, .int .u8 0, .int .u8 0, .int .u8 0, .int .u8 0, .int .u8 0, .int .u8 0, .int .u8 0, .int .u8 0, .int .u8 0, .int .u8 0, .int .u8 0, .int .u8 0, .int .u8 0, .int .u8 0, .int .u8 0, .int .u8 0, .int .u8 0], .int .u8 0] 8 (World.laidAll_os _ _ _)
   (World.shaped_of_ZipB (by kernel_rfl) (by kernel_rfl)) (by kernel_rfl) (by kernel_rfl) (by kernel_rfl)
   (by rw [MakeChecks.laidMetH_plain _ _ _ (by kernel_rfl)]; exact laidMet_laidAll _ (by kernel_rfl) (by kernel_rfl))) ?_
 intro W base args ds gs before hval0 hW hc _ hL _
 have hval : ∀ (j : Nat) t v, Tryz.f7.params[j]? = some t → args[j]? = some v → Value.okWide Tryz.prog W .any base t v := hval0
 have hW' := hW
 obtain ⟨p, q, hA0, hV, rfl, _, _⟩ := hW
 have hA : DataW.TrodAll enc Tryz.prog W 0 (fun _ => true) true Tryz.f7.params.toList args.toList ds p := hA0
 rw [Tryz.params7] at hA hval
 obtain ⟨v0, v1, v2, d0, d1, d2, p0, p1, p2, rfl, rfl, rfl, h0, h1, h2⟩ := trodAll_three hA
 obtain ⟨rfl, rfl⟩ := trodVars_none hV
 obtain ⟨a0, q0, r0⟩ := zoy (hval 0 68 v0 rfl rfl) h0
 obtain ⟨a1, q1, r1⟩ := zjx (hval 1 69 v1 rfl rfl) h1
 obtain ⟨a2, q2, r2⟩ := zqE (hval 2 5 v2 rfl rfl) h2
 obtain ⟨ty, fr, ht⟩ := zjh hL
 simp only [List.append_nil] at hW'
 refine (zrn (K := KW W) ht Tryz.call7 (AI.zqC ztk [] ⟨a0.1, a0.2.1, a0.2.2, (a1 0).1, (a1 0).2.1, (a1 0).2.2, (a1 1).1, (a1 1).2.1, (a1 1).2.2, (a1 2).1, (a1 2).2.1, (a1 2).2.2⟩ a2 ⟨q1 0, q1 1, q1 2⟩ q2) (ztT W) (fun ρ sh => .cons (r0 ρ sh) (.cons (r1 ρ sh) (.cons (r2 ρ sh) .nil)))).mono fun e W' ⟨he, hold, hos, hout⟩ => ?_
 subst he
 refine ⟨_, rfl, _, _, _, [], p0 ++ (p1 ++ p2), [], hW', ?_, ?_, ?_, zsl hold hos hout, fun h => absurd h (by decide)⟩
 ·exact trodAll_mk1 (shut_bool Tryz.underlying4 true)
 ·exact trodAll_mk3 (zeN zbn (by kernel_rfl) (by kernel_rfl) h0 hold) (zeN zbn (by kernel_rfl) (by kernel_rfl) h1 hold) (zeN zbn (by kernel_rfl) (by kernel_rfl) h2 hold)
 ·rfl
theorem zdB : Rows.FlattenProductSaid :=
 OpenClaim.holds_of_wide 7 Tryz.f7 rfl rfl rfl rfl rfl rfl rfl ⟨rfl, rfl, rfl, rfl, rfl⟩ rfl rfl rfl rfl rfl (by kernel_rfl) Tryz.func7 zdb
  (of_decide_eq_true (by kernel_rfl)) (by unfold Func.isWrapper; first | (rw [if_pos (by decide +kernel)]; kernel_rfl) | (rw [if_neg (by decide +kernel)]; exact ⟨rfl, rfl⟩))
  (fun os started H enc _ => zda os started H enc)
theorem flattenProduct_card : Rows.FlattenProductCardSaid :=
 Claim7.holds_tied_plain_at .later [] [.data, .data, .data] true (true, "5041c38c3c15c3199033450f7632fe41f4871cb850793ec5542bbc9f8af1fc7c") false zdB (fun _ h => by cases h) (by kernel_rfl) (fun _ h => by cases h) flattenProduct_row_tie rfl ⟨rfl, rfl⟩ zdU rfl
  (fun f fn hf hfn => by
   obtain rfl : f = 7 := Option.some.inj ((show Tryz.prog.funcNamed "overseer/overseerlaw19.FlattenProduct" = some 7 by kernel_rfl).symm.trans hf) |>.symm
   obtain rfl : fn = Tryz.f7 := (Option.some.inj (Tryz.func7.symm.trans hfn)).symm
   exact ⟨zdA, fun j t ht => by
    rw [Tryz.params7] at ht
    have hm : t ∈ [68, 69, 5] := by simpa using Array.mem_of_getElem? ht
    have hall : ([68, 69, 5].all fun u => !Tryz.prog.wantsStandIn u) = true := by kernel_rfl
    exact (show Tryz.prog.wantsStandIn t = false by simpa using List.all_eq_true.1 hall t hm)⟩)
  zdV
end Go.Proofs.YtlcekmemdnjjbaaGreatDoor
