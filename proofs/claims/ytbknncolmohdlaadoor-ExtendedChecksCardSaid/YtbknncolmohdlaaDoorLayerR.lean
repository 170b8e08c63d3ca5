/- The layer of abstract runs, part 18. -/
import Derived.Test.YtbknncolmohdlaaDoorLayerQ
set_option linter.unusedSimpArgs false
set_option linter.unusedVariables false
set_option linter.all false
namespace Go.AI
open Go.Proofs
set_option maxRecDepth 20000
theorem ckS_err {m : Ext} {s : Sta} (h : chk m ≠ 0) : ckS m s = chk m := by unfold ckS; rw [if_pos h]
set_option maxHeartbeats 4000000 in
theorem checks10 {g : Nat} (hg : IsTab g) {ty : TypeId} {fr : Nat × Nat} (O : List Heap) (m : Ext) (hok : extOk m) : ASpecT g (ptab ty fr) Tryd.prog 10 [extD m] O (bb true) [] O := by
  have hkn := fun O => known11 hg (ty := ty) (fr := fr) O
  have hfew := fun O => few38 O m hok
  generalize fewM m = F at hfew
  have h39 := fun O => check39 O m hok
  have h40 := fun O => check40 O m hok
  have h20 : chk m ≠ 0 → ∀ O, ASpec Tryd.prog 20 [extD m] O (.tup [staD zeroS, ii (chk m)]) [] O := fun h O => by
    have e := begin20 O m hok
    rw [show begR m = (zeroS, chk m) by unfold begR; rw [if_pos h]] at e
    exact e
  have h27 : chk m ≠ 0 → ∀ O, ASpec Tryd.prog 27 [extD m, staD zeroS] O (.tup [ints [], ii (chk m)]) [] O := fun h O => by
    have e := enabled27 O m zeroS hok
    rw [show enR m zeroS = ([], chk m) by unfold enR; rw [ckS_err h, if_pos h]] at e
    exact e
  have h31 : chk m ≠ 0 → ∀ O, ASpec Tryd.prog 31 [extD m, staD zeroS, ii 0] O (.tup [staD zeroS, bb false, ii (chk m)]) [] O := fun h O => by
    have e := step31 O m zeroS 0 hok
    rw [show stpR m zeroS 0 = (zeroS, false, chk m) by unfold stpR; rw [ckS_err h, if_pos h]] at e
    exact e
  have h30 : chk m ≠ 0 → ∀ O, ASpec Tryd.prog 30 [extD m, staD zeroS] O (.tup [bb false, ii (chk m)]) [] O := fun h O => by
    have e := marked30 O m zeroS hok
    rw [show markR m zeroS = (false, chk m) by unfold markR; rw [ckS_err h, if_pos h]] at e
    exact e
  have h21 : chk m ≠ 0 → ∀ O, ASpec Tryd.prog 21 [extD m, .i (.v (.slice none 0 0))] O (.tup [staD zeroS, ii 0, ii (chk m)]) [] O := fun h O => by
    have e := run21 O m [] hok (by decide)
    rw [show runR m [] = (zeroS, 0, chk m) by unfold runR; rw [if_pos h]] at e
    exact e.co (.cons (.refl _) (.cons (coD_i coI_nil) .nil))
  have h14 : chk m ≠ 0 → ∀ O, ASpecT g (ptab ty fr) Tryd.prog 14 [extD m] O (.tup [stasD [], ii (chk m)]) [] O := fun h O => by
    have e := reach14 hg (ty := ty) (fr := fr) O m hok
    rw [show reachR m = ([], chk m) by unfold reachR; rw [if_pos h]] at e
    exact e
  have h15 : chk m ≠ 0 → ∀ O, ASpecT g (ptab ty fr) Tryd.prog 15 [extD m] O (.tup [ints [], bb false, ii 0, ii (chk m)]) [] O := fun h O => by
    have e := fault15 hg (ty := ty) (fr := fr) O m hok
    rw [show faultR m = ([], false, 0, chk m) by unfold faultR; rw [if_pos h]] at e
    exact e
  have h33 := fun (h : chk m ≠ 0) O => overlap33e O m 0 1 hok h
  have h34 := fun (h : chk m ≠ 0) O => unused34e O m hok h
  have h28 : chk m ≠ 0 → ∀ O, ASpec Tryd.prog 28 [extD m, staD zeroS] O (ii (chk m)) [] O := fun h O => by
    have e := checkState28 O m zeroS hok
    rw [ckS_err h] at e
    exact e
  have h26 : ∀ O, ASpec Tryd.prog 26 [staD zeroS] O (bb true) [] O := fun O => none26 O zeroS (by decide)
  generalize chk m = c at *
  refine aspecT_stop [] TrydT_ok Tryd.func10 rfl Tryd.call10 Tryd.ntmps10 (Nat.le_of_ble_eq_true rfl) fun E hE => ?_
  refine g_run TrydT_ok Tryd.func10 ?_
  refine g_callT TrydT_ok Tryd.func10 hE (hkn _) rfl rfl rfl rfl rfl rfl ?_
  repeat (first | refine g_cnd TrydT_ok Tryd.func10 rfl (fun _ => ?_) (fun h => absurd h (by decide)) | refine g_cnd TrydT_ok Tryd.func10 rfl (fun h => absurd h (by decide)) (fun _ => ?_) | refine g_know TrydT_ok Tryd.func10 rfl (fun _ => ?_) (fun h => absurd h (by decide)) | refine g_know TrydT_ok Tryd.func10 rfl (fun h => absurd h (by decide)) (fun _ => ?_) | refine s_know TrydT_ok (fun _ => ?_) (fun h => absurd h (by decide)) | refine s_know TrydT_ok (fun h => absurd h (by decide)) (fun _ => ?_))
  first | refine g_call TrydT_ok Tryd.func10 (hfew _) rfl rfl rfl rfl rfl ?_ | refine s_callq TrydT_ok (fun _ => hfew _) rfl rfl rfl ?_
  first | refine g_cnd TrydT_ok Tryd.func10 rfl (fun hF => ?_) (fun hF => ?_) | refine g_know TrydT_ok Tryd.func10 rfl (fun hF => ?_) (fun hF => ?_) | refine s_know TrydT_ok (fun hF => ?_) (fun hF => ?_)
  · refine g_callT TrydT_ok Tryd.func10 hE (hkn _) rfl rfl rfl rfl rfl rfl ?_
    refine g_ret TrydT_ok (r := bb true) rfl rfl rfl trivial rfl rfl ?_
    rfl
  clear hF
  first | refine g_call TrydT_ok Tryd.func10 (h39 _) rfl rfl rfl rfl rfl ?_ | refine s_callq TrydT_ok (fun _ => h39 _) rfl rfl rfl ?_
  first | refine g_call TrydT_ok Tryd.func10 (h40 _) rfl rfl rfl rfl rfl ?_ | refine s_callq TrydT_ok (fun _ => h40 _) rfl rfl rfl ?_
  first | refine g_cnd TrydT_ok Tryd.func10 rfl (fun h1 => ?_) (fun h1 => ?_) | refine g_know TrydT_ok Tryd.func10 rfl (fun h1 => ?_) (fun h1 => ?_) | refine s_know TrydT_ok (fun h1 => ?_) (fun h1 => ?_)
  · exact absurd h1 (by simp)
  clear h1
  first | refine g_cnd TrydT_ok Tryd.func10 rfl (fun h2 => ?_) (fun h2 => ?_) | refine g_know TrydT_ok Tryd.func10 rfl (fun h2 => ?_) (fun h2 => ?_) | refine s_know TrydT_ok (fun h2 => ?_) (fun h2 => ?_)
  · refine g_ret TrydT_ok (r := bb true) rfl rfl rfl trivial rfl rfl ?_
    rfl
  have h2 := beqF h2
  have hcc : (c == c) = true := by simp
  have hcf : ∀ {p : Prop}, (c == c) = false → p := fun h => by rw [hcc] at h; cases h
  first | refine g_call TrydT_ok Tryd.func10 (h20 h2 _) rfl rfl rfl rfl rfl ?_ | refine s_callq TrydT_ok (fun _ => h20 h2 _) rfl rfl rfl ?_
  first | refine g_call TrydT_ok Tryd.func10 (h27 h2 _) rfl rfl rfl rfl rfl ?_ | refine s_callq TrydT_ok (fun _ => h27 h2 _) rfl rfl rfl ?_
  first | refine g_call TrydT_ok Tryd.func10 (h31 h2 _) rfl rfl rfl rfl rfl ?_ | refine s_callq TrydT_ok (fun _ => h31 h2 _) rfl rfl rfl ?_
  first | refine g_call TrydT_ok Tryd.func10 (h30 h2 _) rfl rfl rfl rfl rfl ?_ | refine s_callq TrydT_ok (fun _ => h30 h2 _) rfl rfl rfl ?_
  first | refine g_call TrydT_ok Tryd.func10 (h21 h2 _) rfl rfl rfl rfl rfl ?_ | refine s_callq TrydT_ok (fun _ => h21 h2 _) rfl rfl rfl ?_
  refine g_callT TrydT_ok Tryd.func10 hE (h14 h2 _) rfl rfl rfl rfl rfl rfl ?_
  refine g_callT TrydT_ok Tryd.func10 hE (h15 h2 _) rfl rfl rfl rfl rfl rfl ?_
  first | refine g_call TrydT_ok Tryd.func10 (h33 h2 _) rfl rfl rfl rfl rfl ?_ | refine s_callq TrydT_ok (fun _ => h33 h2 _) rfl rfl rfl ?_
  first | refine g_call TrydT_ok Tryd.func10 (h34 h2 _) rfl rfl rfl rfl rfl ?_ | refine s_callq TrydT_ok (fun _ => h34 h2 _) rfl rfl rfl ?_
  first | refine g_call TrydT_ok Tryd.func10 (h26 _) rfl rfl rfl rfl rfl ?_ | refine s_callq TrydT_ok (fun _ => h26 _) rfl rfl rfl ?_
  repeat (first | refine g_cnd TrydT_ok Tryd.func10 rfl (fun _ => ?_) (fun h => absurd h (by decide)) | refine g_cnd TrydT_ok Tryd.func10 rfl (fun h => absurd h (by decide)) (fun _ => ?_) | refine g_know TrydT_ok Tryd.func10 rfl (fun _ => ?_) (fun h => absurd h (by decide)) | refine g_know TrydT_ok Tryd.func10 rfl (fun h => absurd h (by decide)) (fun _ => ?_) | refine s_know TrydT_ok (fun _ => ?_) (fun h => absurd h (by decide)) | refine s_know TrydT_ok (fun h => absurd h (by decide)) (fun _ => ?_))
  first | refine g_cnd TrydT_ok Tryd.func10 rfl (fun a1 => ?_) (fun a1 => ?_) | refine g_know TrydT_ok Tryd.func10 rfl (fun a1 => ?_) (fun a1 => ?_) | refine s_know TrydT_ok (fun a1 => ?_) (fun a1 => ?_)
  rotate_left
  · exact hcf a1
  repeat (first | refine g_cnd TrydT_ok Tryd.func10 rfl (fun _ => ?_) (fun h => absurd h (by decide)) | refine g_cnd TrydT_ok Tryd.func10 rfl (fun h => absurd h (by decide)) (fun _ => ?_) | refine g_know TrydT_ok Tryd.func10 rfl (fun _ => ?_) (fun h => absurd h (by decide)) | refine g_know TrydT_ok Tryd.func10 rfl (fun h => absurd h (by decide)) (fun _ => ?_) | refine s_know TrydT_ok (fun _ => ?_) (fun h => absurd h (by decide)) | refine s_know TrydT_ok (fun h => absurd h (by decide)) (fun _ => ?_))
  first | refine g_cnd TrydT_ok Tryd.func10 rfl (fun a2 => ?_) (fun a2 => ?_) | refine g_know TrydT_ok Tryd.func10 rfl (fun a2 => ?_) (fun a2 => ?_) | refine s_know TrydT_ok (fun a2 => ?_) (fun a2 => ?_)
  rotate_left
  · exact hcf a2
  first | refine g_call TrydT_ok Tryd.func10 (h26 _) rfl rfl rfl rfl rfl ?_ | refine s_callq TrydT_ok (fun _ => h26 _) rfl rfl rfl ?_
  repeat (first | refine g_cnd TrydT_ok Tryd.func10 rfl (fun _ => ?_) (fun h => absurd h (by decide)) | refine g_cnd TrydT_ok Tryd.func10 rfl (fun h => absurd h (by decide)) (fun _ => ?_) | refine g_know TrydT_ok Tryd.func10 rfl (fun _ => ?_) (fun h => absurd h (by decide)) | refine g_know TrydT_ok Tryd.func10 rfl (fun h => absurd h (by decide)) (fun _ => ?_) | refine s_know TrydT_ok (fun _ => ?_) (fun h => absurd h (by decide)) | refine s_know TrydT_ok (fun h => absurd h (by decide)) (fun _ => ?_))
  first | refine g_cnd TrydT_ok Tryd.func10 rfl (fun a3 => ?_) (fun a3 => ?_) | refine g_know TrydT_ok Tryd.func10 rfl (fun a3 => ?_) (fun a3 => ?_) | refine s_know TrydT_ok (fun a3 => ?_) (fun a3 => ?_)
  rotate_left
  · exact hcf a3
  repeat (first | refine g_cnd TrydT_ok Tryd.func10 rfl (fun _ => ?_) (fun h => absurd h (by decide)) | refine g_cnd TrydT_ok Tryd.func10 rfl (fun h => absurd h (by decide)) (fun _ => ?_) | refine g_know TrydT_ok Tryd.func10 rfl (fun _ => ?_) (fun h => absurd h (by decide)) | refine g_know TrydT_ok Tryd.func10 rfl (fun h => absurd h (by decide)) (fun _ => ?_) | refine s_know TrydT_ok (fun _ => ?_) (fun h => absurd h (by decide)) | refine s_know TrydT_ok (fun h => absurd h (by decide)) (fun _ => ?_))
  first | refine g_cnd TrydT_ok Tryd.func10 rfl (fun a4 => ?_) (fun a4 => ?_) | refine g_know TrydT_ok Tryd.func10 rfl (fun a4 => ?_) (fun a4 => ?_) | refine s_know TrydT_ok (fun a4 => ?_) (fun a4 => ?_)
  rotate_left
  · exact hcf a4
  first | refine g_call TrydT_ok Tryd.func10 (h26 _) rfl rfl rfl rfl rfl ?_ | refine s_callq TrydT_ok (fun _ => h26 _) rfl rfl rfl ?_
  repeat (first | refine g_cnd TrydT_ok Tryd.func10 rfl (fun _ => ?_) (fun h => absurd h (by decide)) | refine g_cnd TrydT_ok Tryd.func10 rfl (fun h => absurd h (by decide)) (fun _ => ?_) | refine g_know TrydT_ok Tryd.func10 rfl (fun _ => ?_) (fun h => absurd h (by decide)) | refine g_know TrydT_ok Tryd.func10 rfl (fun h => absurd h (by decide)) (fun _ => ?_) | refine s_know TrydT_ok (fun _ => ?_) (fun h => absurd h (by decide)) | refine s_know TrydT_ok (fun h => absurd h (by decide)) (fun _ => ?_))
  first | refine g_cnd TrydT_ok Tryd.func10 rfl (fun a5 => ?_) (fun a5 => ?_) | refine g_know TrydT_ok Tryd.func10 rfl (fun a5 => ?_) (fun a5 => ?_) | refine s_know TrydT_ok (fun a5 => ?_) (fun a5 => ?_)
  rotate_left
  · exact hcf a5
  repeat (first | refine g_cnd TrydT_ok Tryd.func10 rfl (fun _ => ?_) (fun h => absurd h (by decide)) | refine g_cnd TrydT_ok Tryd.func10 rfl (fun h => absurd h (by decide)) (fun _ => ?_) | refine g_know TrydT_ok Tryd.func10 rfl (fun _ => ?_) (fun h => absurd h (by decide)) | refine g_know TrydT_ok Tryd.func10 rfl (fun h => absurd h (by decide)) (fun _ => ?_) | refine s_know TrydT_ok (fun _ => ?_) (fun h => absurd h (by decide)) | refine s_know TrydT_ok (fun h => absurd h (by decide)) (fun _ => ?_))
  first | refine g_cnd TrydT_ok Tryd.func10 rfl (fun a6 => ?_) (fun a6 => ?_) | refine g_know TrydT_ok Tryd.func10 rfl (fun a6 => ?_) (fun a6 => ?_) | refine s_know TrydT_ok (fun a6 => ?_) (fun a6 => ?_)
  rotate_left
  · exact hcf a6
  repeat (first | refine g_cnd TrydT_ok Tryd.func10 rfl (fun _ => ?_) (fun h => absurd h (by decide)) | refine g_cnd TrydT_ok Tryd.func10 rfl (fun h => absurd h (by decide)) (fun _ => ?_) | refine g_know TrydT_ok Tryd.func10 rfl (fun _ => ?_) (fun h => absurd h (by decide)) | refine g_know TrydT_ok Tryd.func10 rfl (fun h => absurd h (by decide)) (fun _ => ?_) | refine s_know TrydT_ok (fun _ => ?_) (fun h => absurd h (by decide)) | refine s_know TrydT_ok (fun h => absurd h (by decide)) (fun _ => ?_))
  first | refine g_cnd TrydT_ok Tryd.func10 rfl (fun a7 => ?_) (fun a7 => ?_) | refine g_know TrydT_ok Tryd.func10 rfl (fun a7 => ?_) (fun a7 => ?_) | refine s_know TrydT_ok (fun a7 => ?_) (fun a7 => ?_)
  rotate_left
  · exact hcf a7
  repeat (first | refine g_cnd TrydT_ok Tryd.func10 rfl (fun _ => ?_) (fun h => absurd h (by decide)) | refine g_cnd TrydT_ok Tryd.func10 rfl (fun h => absurd h (by decide)) (fun _ => ?_) | refine g_know TrydT_ok Tryd.func10 rfl (fun _ => ?_) (fun h => absurd h (by decide)) | refine g_know TrydT_ok Tryd.func10 rfl (fun h => absurd h (by decide)) (fun _ => ?_) | refine s_know TrydT_ok (fun _ => ?_) (fun h => absurd h (by decide)) | refine s_know TrydT_ok (fun h => absurd h (by decide)) (fun _ => ?_))
  first | refine g_cnd TrydT_ok Tryd.func10 rfl (fun a8 => ?_) (fun a8 => ?_) | refine g_know TrydT_ok Tryd.func10 rfl (fun a8 => ?_) (fun a8 => ?_) | refine s_know TrydT_ok (fun a8 => ?_) (fun a8 => ?_)
  rotate_left
  · exact hcf a8
  repeat (first | refine g_cnd TrydT_ok Tryd.func10 rfl (fun _ => ?_) (fun h => absurd h (by decide)) | refine g_cnd TrydT_ok Tryd.func10 rfl (fun h => absurd h (by decide)) (fun _ => ?_) | refine g_know TrydT_ok Tryd.func10 rfl (fun _ => ?_) (fun h => absurd h (by decide)) | refine g_know TrydT_ok Tryd.func10 rfl (fun h => absurd h (by decide)) (fun _ => ?_) | refine s_know TrydT_ok (fun _ => ?_) (fun h => absurd h (by decide)) | refine s_know TrydT_ok (fun h => absurd h (by decide)) (fun _ => ?_))
  first | refine g_cnd TrydT_ok Tryd.func10 rfl (fun a9 => ?_) (fun a9 => ?_) | refine g_know TrydT_ok Tryd.func10 rfl (fun a9 => ?_) (fun a9 => ?_) | refine s_know TrydT_ok (fun a9 => ?_) (fun a9 => ?_)
  rotate_left
  · exact hcf a9
  repeat (first | refine g_cnd TrydT_ok Tryd.func10 rfl (fun _ => ?_) (fun h => absurd h (by decide)) | refine g_cnd TrydT_ok Tryd.func10 rfl (fun h => absurd h (by decide)) (fun _ => ?_) | refine g_know TrydT_ok Tryd.func10 rfl (fun _ => ?_) (fun h => absurd h (by decide)) | refine g_know TrydT_ok Tryd.func10 rfl (fun h => absurd h (by decide)) (fun _ => ?_) | refine s_know TrydT_ok (fun _ => ?_) (fun h => absurd h (by decide)) | refine s_know TrydT_ok (fun h => absurd h (by decide)) (fun _ => ?_))
  first | refine g_call TrydT_ok Tryd.func10 (h28 h2 _) rfl rfl rfl rfl rfl ?_ | refine s_callq TrydT_ok (fun _ => h28 h2 _) rfl rfl rfl ?_
  refine g_ret TrydT_ok (r := bb (c == c)) rfl rfl rfl trivial rfl rfl ?_
  rw [hcc]
end Go.AI
