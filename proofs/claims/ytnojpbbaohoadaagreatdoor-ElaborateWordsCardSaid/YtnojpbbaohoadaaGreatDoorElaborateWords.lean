
/- ElaborateWords: for any sketched model, any small number and any bytes, the law returns true and the arguments read as they did. No condition. -/
import Derived.Test.YtnojpbbaohoadaaGreatDoorElkZE
set_option linter.unusedSimpArgs false
set_option linter.unusedVariables false
set_option linter.all false
namespace Go.Proofs.YtnojpbbaohoadaaGreatDoor
open Go.ChangeShapes Go.WideShapes Go.ChangeAt Go.RowKit
set_option maxRecDepth 100000
theorem zdC (os : Os) (started : os.Started) (H : Type) (enc : TypeId × Value → H) :
  ReturnsInHanded {} Tryz.checked os 4 .any (fun w args => (Rows.elaborateWordsSpec.pre enc Tryz.prog Tryz.f4 Rows.elaborateWordsRow.domain false w args ∧ laidMetH Tryz.prog Rows.elaborateWordsRow.laid w) ∧ sizedMet enc Tryz.prog Tryz.f4 (OpenSpec.ofChange Rows.elaborateWordsSpec) false w args)
   (Rows.elaborateWordsSpec.post enc Tryz.prog Tryz.f4 false true false false) := by
 refine returnsInHanded_of_change_and (C := Tryz.checked) (X := fun w _ => laidMetH Tryz.prog Rows.elaborateWordsRow.laid w) (fun _ _ _ hh h => h.of_heap hh) Tryz.own started (by kernel_rfl) Tryz.func4
  (ChangeSpec.witness_shaped (enc := enc) (C := Tryz.checked) (os := os) (X := fun w _ => laidMetH Tryz.prog Rows.elaborateWordsRow.laid w) false (World.laidAll Tryz.prog os Rows.elaborateWordsRow.laid) #[.agg #[.slice none 0 0, .slice none 0 0, .slice none 0 0, .int .i8 0], .int .u8 0, .slice none 0 0] 8 (World.laidAll_os _ _ _)
   (World.shaped_of_ZipB (by kernel_rfl) (by kernel_rfl)) (by kernel_rfl) (by kernel_rfl) (by kernel_rfl)
   (by rw [MakeChecks.laidMetH_plain _ _ _ (by kernel_rfl)]; exact laidMet_laidAll _ (by kernel_rfl) (by kernel_rfl))) ?_
 intro W base args ds gs before hval0 hW hc _ hL _
 have hval : ∀ (j : Nat) t v, Tryz.f4.params[j]? = some t → args[j]? = some v → Value.okWide Tryz.prog W .any base t v := hval0
 have hW' := hW
 obtain ⟨p, q, hA0, hV, rfl, _, _⟩ := hW
 have hA : DataW.TrodAll enc Tryz.prog W 0 (fun _ => true) true Tryz.f4.params.toList args.toList ds p := hA0
 rw [Tryz.params4] at hA hval
 obtain ⟨v0, v1, v2, d0, d1, d2, p0, p1, p2, rfl, rfl, rfl, h0, h1, h2⟩ := trodAll_three hA
 obtain ⟨rfl, rfl⟩ := trodVars_none hV
 obtain ⟨a0, q0, r0⟩ := zrO (hval 0 27 v0 rfl rfl) h0
 obtain ⟨a1, q1, r1⟩ := zuH (hval 1 5 v1 rfl rfl) h1
 obtain ⟨a2, q2, r2⟩ := zpG (hval 2 71 v2 rfl rfl) h2
 obtain ⟨ty, fr, ht⟩ := zkN hL
 simp only [List.append_nil] at hW'
 refine (zvG (K := KW W) ht Tryz.call4 (AI.zxX zyw [] a0 a1 a2 q0 q1 q2.1 q2.2) (zzb W) (fun ρ sh => .cons (r0 ρ sh) (.cons (r1 ρ sh) (.cons (r2 ρ sh) .nil)))).mono fun e W' ⟨he, hold, hos, hout⟩ => ?_
 subst he
 refine ⟨_, rfl, _, _, _, [], p0 ++ (p1 ++ p2), [], hW', ?_, ?_, ?_, zxp hold hos hout, fun h => absurd h (by decide)⟩
 ·exact trodAll_mk1 (shut_bool Tryz.underlying4 true)
 ·exact trodAll_mk3 (zfD zbG (by kernel_rfl) (by kernel_rfl) h0 hold) (zfD zbG (by kernel_rfl) (by kernel_rfl) h1 hold) (zfD zbG (by kernel_rfl) (by kernel_rfl) h2 hold)
 ·rfl
theorem zd2 : Rows.ElaborateWordsSaid :=
 OpenClaim.holds_of_wide 4 Tryz.f4 rfl rfl rfl rfl rfl rfl rfl ⟨rfl, rfl, rfl, rfl, rfl⟩ rfl rfl rfl rfl rfl (by kernel_rfl) Tryz.func4 zdD
  (of_decide_eq_true (by kernel_rfl)) (by unfold Func.isWrapper; first | (rw [if_pos (by decide +kernel)]; kernel_rfl) | (rw [if_neg (by decide +kernel)]; exact ⟨rfl, rfl⟩))
  (fun os started H enc _ => zdC os started H enc)
theorem elaborateWords_card : Rows.ElaborateWordsCardSaid :=
 Claim7.holds_tied_plain_at .later [] [.data, .data, .data] true (true, "9aa124d96d2f2fea36404c3e6649a1942013d744947b2e2ae648d5b84282eb38") false zd2 (fun _ h => by cases h) (by kernel_rfl) (fun _ h => by cases h) elaborateWords_row_tie rfl ⟨rfl, rfl⟩ zeB rfl
  (fun f fn hf hfn => by
   obtain rfl : f = 4 := Option.some.inj ((show Tryz.prog.funcNamed "overseer/overseerlaw22.ElaborateWords" = some 4 by kernel_rfl).symm.trans hf) |>.symm
   obtain rfl : fn = Tryz.f4 := (Option.some.inj (Tryz.func4.symm.trans hfn)).symm
   exact ⟨zd1, fun j t ht => by
    rw [Tryz.params4] at ht
    have hm : t ∈ [27, 5, 71] := by simpa using Array.mem_of_getElem? ht
    have hall : ([27, 5, 71].all fun u => !Tryz.prog.wantsStandIn u) = true := by kernel_rfl
    exact (show Tryz.prog.wantsStandIn t = false by simpa using List.all_eq_true.1 hall t hm)⟩)
  zeC
end Go.Proofs.YtnojpbbaohoadaaGreatDoor
