/- The layer of abstract runs, part 15. -/
import Derived.Test.YtbknncolmohdlaaDoorLayerN
set_option linter.unusedSimpArgs false
set_option linter.unusedVariables false
set_option linter.all false
namespace Go.AI
open Go.Proofs
set_option maxRecDepth 20000
def rangeI (lo hi : Int) : List Int := (List.range (hi - lo + 1).toNat).map fun (k : Nat) => lo + k
def allStep (out : List (List Int)) (v : Vr) : List (List Int) := out.flatMap fun vals => (rangeI v.low v.high).map fun n => vals ++ [n]
/-- All values of variables, in order. -/
def allV (l : List Vr) : List (List Int) := l.foldl allStep [[]]
theorem rangeI_len {v : Vr} (h : vrOk v) : (rangeI v.low v.high).length ≤ 4 := by
  have := h.w
  simp only [rangeI, List.length_map, List.length_range]
  omega
theorem flat_len4 {α β : Type} {f : α → List β} : ∀ {l : List α}, (∀ x ∈ l, (f x).length ≤ 4) → (l.flatMap f).length ≤ 4 * l.length
  | [], _ => by simp
  | x :: r, h => by
    have h1 := h x (by simp)
    have h2 := flat_len4 (l := r) fun y hy => h y (by simp [hy])
    simp only [List.flatMap_cons, List.length_append, List.length_cons]
    omega
theorem allStep_len {out : List (List Int)} {v : Vr} (h : vrOk v) : (allStep out v).length ≤ 4 * out.length := by
  unfold allStep
  refine flat_len4 fun x _ => ?_
  rw [List.length_map]
  exact rangeI_len h
theorem allStep_vals {out : List (List Int)} {v : Vr} {n : Nat} (h : ∀ x ∈ out, x.length = n) : ∀ x ∈ allStep out v, x.length = n + 1 := by
  intro x hx
  unfold allStep at hx
  simp only [List.mem_flatMap, List.mem_map] at hx
  obtain ⟨y, hy, z, _, rfl⟩ := hx
  simp [h y hy]
abbrev ointss (l : List (List Int)) : Ob := .arr 24 1 l.length (l.map fun x => [intsI x]) true
theorem ointss_app (l : List (List Int)) (x : List Int) : Ob.arr 24 1 (l.length + 1) ((l.map fun x => [intsI x]) ++ [[intsI x]]) true = ointss (l ++ [x]) := by simp
theorem all35 (O : List Heap) (l : List Vr) (hl : l.length ≤ 2) (hv : ∀ v ∈ l, vrOk v) (he : varsErr l = 0) : ASpec Tryd.prog 35 [vrs l] O (.tup [intss (allV l), ii 0]) [] O := by
  have hc := fun O => checkVars56' O l (by simp only [max63]; omega) (fun v h => by rw [(hv v h).nm]; decide)
  simp only [he] at hc
  refine aspec_stop [12, 200064] TrydT_ok Tryd.func35 rfl Tryd.call35 Tryd.ntmps35 (Nat.le_of_ble_eq_true rfl) fun E => ?_
  refine g_run TrydT_ok Tryd.func35 ?_
  first | refine g_call TrydT_ok Tryd.func35 (hc _) rfl rfl rfl rfl rfl ?_ | refine s_callq TrydT_ok (fun _ => hc _) rfl rfl rfl ?_
  repeat (first | refine g_cnd TrydT_ok Tryd.func35 rfl (fun _ => ?_) (fun h => absurd h (by decide)) | refine g_cnd TrydT_ok Tryd.func35 rfl (fun h => absurd h (by decide)) (fun _ => ?_) | refine g_know TrydT_ok Tryd.func35 rfl (fun _ => ?_) (fun h => absurd h (by decide)) | refine g_know TrydT_ok Tryd.func35 rfl (fun h => absurd h (by decide)) (fun _ => ?_) | refine s_know TrydT_ok (fun _ => ?_) (fun h => absurd h (by decide)) | refine s_know TrydT_ok (fun h => absurd h (by decide)) (fun _ => ?_))
  refine g_loop ?_
  refine rch_loop2 (fun x : Nat × Int => [(0, vrs l), (3, ii 0), (5, ii x.2), (20, vrs l), (21, ii l.length), (22, ii x.1)]) (fun _ => []) (fun _ => O) 70
    (fun x => x.1 ≤ l.length ∧ 1 ≤ x.2 ∧ x.2 ≤ (4 ^ x.1 : Nat)) (fun x => l.length - x.1) (0, 1) ⟨Nat.zero_le _, by decide, by decide⟩ ⟨rfl, rfl, rfl, rfl, rfl, rfl, trivial⟩ rfl trivial rfl rfl ?_
  rintro ⟨j, c⟩ ⟨hj, hc1, hc2⟩ ih
  simp only at hj hc1 hc2
  have h16 : (4 : Nat) ^ j ≤ 16 := by
    have : j = 0 ∨ j = 1 ∨ j = 2 := by omega
    rcases this with rfl | rfl | rfl <;> decide
  refine g_run TrydT_ok Tryd.func35 ?_
  first | refine g_cnd TrydT_ok Tryd.func35 rfl (fun g1 => ?_) (fun g1 => ?_) | refine g_know TrydT_ok Tryd.func35 rfl (fun g1 => ?_) (fun g1 => ?_) | refine s_know TrydT_ok (fun g1 => ?_) (fun g1 => ?_)
  · have h1 : j < l.length := by simpa using g1
    clear g1
    have hg : (l.map vrI)[(j : Int).toNat]? = some (vrI l[j]) := get_mapZ h1
    have hvo := hv _ (List.getElem_mem h1)
    generalize l[j] = v at *
    have hw := hvo.w
    have hlo := hvo.lo
    have hhi := hvo.hi
    have hww : IntKind.i64.wrap (IntKind.i64.wrap (v.high - v.low) + 1) = v.high - v.low + 1 := by
      rw [w64 (n := v.high - v.low) (by omega) (by omega), w64 (by omega) (by omega)]
    have hcw : 1 ≤ c * (v.high - v.low + 1) ∧ c * (v.high - v.low + 1) ≤ 4 * c := by
      have : v.high - v.low + 1 = 1 ∨ v.high - v.low + 1 = 2 ∨ v.high - v.low + 1 = 3 ∨ v.high - v.low + 1 = 4 := by omega
      rcases this with e | e | e | e <;> rw [e] <;> omega
    have hcc : IntKind.i64.wrap (c * IntKind.i64.wrap (IntKind.i64.wrap (v.high - v.low) + 1)) = c * (v.high - v.low + 1) := by
      rw [hww, w64 (by omega) (by omega)]
    first | refine g_need TrydT_ok Tryd.func35 (by exact ⟨by omega, by show (j : Int) < (l.length : Int); omega⟩) ?_ | refine s_need TrydT_ok (by exact ⟨by omega, by show (j : Int) < (l.length : Int); omega⟩) ?_
    first | refine g_elem TrydT_ok Tryd.func35 (hg) ?_ | refine s_elem TrydT_ok (hg) ?_
    first | refine g_cnd TrydT_ok Tryd.func35 rfl (fun h2 => ?_) (fun h2 => ?_) | refine g_know TrydT_ok Tryd.func35 rfl (fun h2 => ?_) (fun h2 => ?_) | refine s_know TrydT_ok (fun h2 => ?_) (fun h2 => ?_)
    · have h2 : 4096 < IntKind.i64.wrap (c * IntKind.i64.wrap (IntKind.i64.wrap (v.high - v.low) + 1)) := of_decide_eq_true h2
      omega
    refine g_loop ?_
    refine ih (j + 1, c * (v.high - v.low + 1)) _ _ ⟨h1, hcw.1, ?_⟩ (by simp only; omega) ⟨rfl, rfl, congrArg ii hcc, rfl, rfl, congrArg ii (wsucc (n := 2) (by omega) (by decide)), trivial⟩ rfl trivial rfl rfl
    simp only
    rw [Nat.pow_succ]
    omega
  · clear ih hc1 hc2 g1 h16
    refine g_stop ?_
    refine g_run TrydT_ok Tryd.func35 ?_
    refine g_go TrydT_ok Tryd.func35 ?_
    refine g_loop ?_
    have hco : CoD (.i (.sl 1 1 [[.v (.slice none 0 0)]])) (intss [[]]) := by
      show CoD _ (.i (.sl 1 1 [[.sl 1 0 []]]))
      repeat' (first | refine coD_tup ?_ | refine coD_agg ?_ | refine coD_i ?_ | refine CoDL.cons ?_ ?_ | exact CoDL.nil | exact coI_nil | refine coI_sl ?_ | refine CoLL.cons ?_ ?_ | exact CoLL.nil | refine CoL.cons ?_ ?_ | exact CoL.nil | exact CoI.refl _ | exact CoL.refl _ | exact CoLL.refl _ | exact CoDL.refl _ | exact CoD.refl _)
    refine rch_wk (wk_freeze 37 rfl rfl) ?_
    refine rch_wk (wk_imm rfl) ?_
    refine rch_wk (wk_co 8 (d := intss [[]]) (by exact hco)) ?_
    refine rch_loop2 (fun x : Nat × List (List Int) => [(0, vrs l), (3, ii 0), (8, intss x.2), (38, vrs l), (39, ii l.length), (40, ii x.1)]) (fun _ => []) (fun _ => O) 70
      (fun x => x.1 ≤ l.length ∧ x.2 = allV (l.take x.1) ∧ x.2.length ≤ 4 ^ x.1 ∧ ∀ y ∈ x.2, y.length = x.1) (fun x => l.length - x.1) (0, [[]]) ⟨Nat.zero_le _, rfl, by decide, by simp⟩ ⟨rfl, rfl, rfl, rfl, rfl, rfl, trivial⟩ rfl trivial rfl rfl ?_
    rintro ⟨j, out⟩ ⟨hj, hout, hlen, hvals⟩ ih
    clear hco
    simp only at hj hout hlen hvals
    have h16 : (4 : Nat) ^ j ≤ 16 := by
      have : j = 0 ∨ j = 1 ∨ j = 2 := by omega
      rcases this with rfl | rfl | rfl <;> decide
    refine g_run TrydT_ok Tryd.func35 ?_
    first | refine g_cnd TrydT_ok Tryd.func35 rfl (fun g1 => ?_) (fun g1 => ?_) | refine g_know TrydT_ok Tryd.func35 rfl (fun g1 => ?_) (fun g1 => ?_) | refine s_know TrydT_ok (fun g1 => ?_) (fun g1 => ?_)
    · have h1 : j < l.length := by simpa using g1
      clear g1
      have hg : (l.map vrI)[(j : Int).toNat]? = some (vrI l[j]) := get_mapZ h1
      have hvo := hv _ (List.getElem_mem h1)
      have hnext : allStep out l[j] = allV (l.take (j + 1)) := by
        rw [hout]
        unfold allV
        rw [List.take_add_one, List.getElem?_eq_getElem h1, List.foldl_append]
        rfl
      generalize l[j] = v at *
      have hw := hvo.w
      have hlo := hvo.lo
      have hhi := hvo.hi
      have hsl := allStep_len (out := out) hvo
      have hsv := allStep_vals (out := out) (v := v) hvals
      first | refine g_need TrydT_ok Tryd.func35 (by exact ⟨by omega, by show (j : Int) < (l.length : Int); omega⟩) ?_ | refine s_need TrydT_ok (by exact ⟨by omega, by show (j : Int) < (l.length : Int); omega⟩) ?_
      first | refine g_elem TrydT_ok Tryd.func35 (hg) ?_ | refine s_elem TrydT_ok (hg) ?_
      refine g_loop ?_
      refine rch_wk (wk_nil 11 65 24 1 rfl rfl rfl) ?_
      refine rch_loop2 (fun x : Nat × List (List Int) => [(0, vrs l), (3, ii 0), (8, intss out), (38, vrs l), (39, ii l.length), (40, ii j), (10, .own 0 10 0 0), (11, .osl 0 65), (44, intss out), (45, ii out.length), (46, ii x.1)])
        (fun x => [(10, .box [.i (strI v.name), ii v.low, ii v.high, ii v.init]), (65, ointss x.2)]) (fun _ => O) 70
        (fun x => x.1 ≤ out.length ∧ x.2 = allStep (out.take x.1) v) (fun x => out.length - x.1) (0, []) ⟨Nat.zero_le _, rfl⟩ ⟨rfl, rfl, rfl, rfl, rfl, rfl, rfl, rfl, rfl, rfl, rfl, trivial⟩ rfl ⟨rfl, rfl, trivial⟩ rfl rfl ?_
      rintro ⟨i, acc⟩ ⟨hi, hacc⟩ ih2
      simp only at hi hacc
      refine g_run TrydT_ok Tryd.func35 ?_
      first | refine g_cnd TrydT_ok Tryd.func35 rfl (fun g2 => ?_) (fun g2 => ?_) | refine g_know TrydT_ok Tryd.func35 rfl (fun g2 => ?_) (fun g2 => ?_) | refine s_know TrydT_ok (fun g2 => ?_) (fun g2 => ?_)
      · have h2 : i < out.length := by simpa using g2
        clear g2
        have hgo : (out.map fun x => [intsI x])[(i : Int).toNat]? = some [intsI out[i]] := get_mapZ (f := fun x => [intsI x]) h2
        have hxl := hvals _ (List.getElem_mem h2)
        have hnx : allStep (out.take (i + 1)) v = acc ++ (rangeI v.low v.high).map fun n => out[i] ++ [n] := by
          rw [hacc]
          unfold allStep
          rw [List.take_add_one, List.getElem?_eq_getElem h2, List.flatMap_append]
          simp
        have hal : acc.length ≤ 64 := by
          rw [hacc]
          have := allStep_len (out := out.take i) hvo
          have := List.length_take_le i out
          omega
        generalize out[i] = vals at *
        first | refine g_need TrydT_ok Tryd.func35 (by exact ⟨by omega, by show (i : Int) < (out.length : Int); omega⟩) ?_ | refine s_need TrydT_ok (by exact ⟨by omega, by show (i : Int) < (out.length : Int); omega⟩) ?_
        first | refine g_elem TrydT_ok Tryd.func35 (hgo) ?_ | refine s_elem TrydT_ok (hgo) ?_
        have hk0 : rangeI v.low (v.low + ((0 : Nat) : Int) - 1) = [] := by
          unfold rangeI
          rw [show (v.low + ((0 : Nat) : Int) - 1 - v.low + 1).toNat = 0 by omega]
          rfl
        refine g_loop ?_
        refine rch_loop2 (fun k : Nat => [(0, vrs l), (3, ii 0), (8, intss out), (38, vrs l), (39, ii l.length), (40, ii j), (10, .own 0 10 0 0), (11, .osl 0 65), (44, intss out), (45, ii out.length), (46, ii i), (13, ints vals), (14, ii (v.low + k))])
          (fun k => [(10, .box [.i (strI v.name), ii v.low, ii v.high, ii v.init]), (65, ointss (acc ++ (rangeI v.low (v.low + k - 1)).map fun n => vals ++ [n]))]) (fun _ => O) 70
          (fun k => (k : Int) ≤ v.high - v.low + 1) (fun k => (v.high - v.low + 1).toNat - k) 0 (show ((0 : Nat) : Int) ≤ v.high - v.low + 1 by omega) ⟨rfl, rfl, rfl, rfl, rfl, rfl, rfl, rfl, rfl, rfl, rfl, rfl, congrArg ii (by simp), trivial⟩ rfl ⟨rfl, by show some (ointss acc) = some (ointss (acc ++ (rangeI v.low (v.low + ((0 : Nat) : Int) - 1)).map fun n => vals ++ [n])); rw [hk0]; simp, trivial⟩ rfl rfl ?_
        rintro k hk ih3
        have hk : (k : Int) ≤ v.high - v.low + 1 := hk
        have hks : (rangeI v.low (v.low + ((k + 1 : Nat) : Int) - 1)).map (fun n => vals ++ [n]) = (rangeI v.low (v.low + k - 1)).map (fun n => vals ++ [n]) ++ [vals ++ [v.low + k]] := by
          unfold rangeI
          rw [show (v.low + ((k + 1 : Nat) : Int) - 1 - v.low + 1).toNat = k + 1 by omega, show (v.low + (k : Int) - 1 - v.low + 1).toNat = k by omega, List.range_succ, List.map_append, List.map_append]
          rfl
        have hkl : ((rangeI v.low (v.low + k - 1)).map fun n => vals ++ [n]).length = k := by
          unfold rangeI
          simp
          omega
        have hke : (k : Int) = v.high - v.low + 1 → (rangeI v.low (v.low + k - 1)).map (fun n => vals ++ [n]) = (rangeI v.low v.high).map fun n => vals ++ [n] := fun e => by rw [e, show v.low + (v.high - v.low + 1) - 1 = v.high by omega]
        generalize (rangeI v.low (v.low + k - 1)).map (fun n => vals ++ [n]) = part at *
        refine g_run TrydT_ok Tryd.func35 ?_
        first | refine g_cnd TrydT_ok Tryd.func35 rfl (fun g3 => ?_) (fun g3 => ?_) | refine g_know TrydT_ok Tryd.func35 rfl (fun g3 => ?_) (fun g3 => ?_) | refine s_know TrydT_ok (fun g3 => ?_) (fun g3 => ?_)
        · have h3 : v.low + k ≤ v.high := of_decide_eq_true g3
          clear g3
          first | refine g_call TrydT_ok Tryd.func35 (clone57 60 _ vals (by simp only [big]; omega)) rfl rfl rfl rfl rfl ?_ | refine s_callq TrydT_ok (fun _ => clone57 60 _ vals (by simp only [big]; omega)) rfl rfl rfl ?_
          first | refine g_need TrydT_ok Tryd.func35 (by exact ⟨by show (vals.length + 1) * 8 ≤ 140737488355328; omega, by show vals.length + 1 ≤ 9223372036854775807; omega⟩) ?_ | refine s_need TrydT_ok (by exact ⟨by show (vals.length + 1) * 8 ≤ 140737488355328; omega, by show vals.length + 1 ≤ 9223372036854775807; omega⟩) ?_
          refine g_pause TrydT_ok Tryd.func35 rfl rfl (Wk.trans (wk_freeze 63 rfl rfl) (wk_imm rfl)) ?_
          first | refine g_need TrydT_ok Tryd.func35 (by exact ⟨by show ((acc ++ part).length + 1) * 24 ≤ 140737488355328; simp only [List.length_append]; omega, by show (acc ++ part).length + 1 ≤ 9223372036854775807; simp only [List.length_append]; omega⟩) ?_ | refine s_need TrydT_ok (by exact ⟨by show ((acc ++ part).length + 1) * 24 ≤ 140737488355328; simp only [List.length_append]; omega, by show (acc ++ part).length + 1 ≤ 9223372036854775807; simp only [List.length_append]; omega⟩) ?_
          refine g_loop ?_
          refine ih3 (k + 1) _ _ (show ((k + 1 : Nat) : Int) ≤ v.high - v.low + 1 by omega) (by omega) ⟨rfl, rfl, rfl, rfl, rfl, rfl, rfl, rfl, rfl, rfl, rfl, rfl, congrArg ii ?_, trivial⟩ rfl ⟨rfl, ?_, trivial⟩ rfl rfl
          · rw [w64 (by omega) (by omega)]; omega
          · rw [hks]
            have e : (vals ++ [v.low + (k : Int)]).map (fun x => [vi x]) = vals.map (fun x => [vi x]) ++ [[vi (v.low + k)]] := by simp
            show some (Ob.arr 24 1 ((acc ++ part).length + 1) ((acc ++ part).map (fun x => [intsI x]) ++ [[.sl 1 (vals.length + 1) (vals.map (fun x => [vi x]) ++ [[vi (v.low + k)]])]]) true) = some (ointss (acc ++ (part ++ [vals ++ [v.low + (k : Int)]])))
            rw [← List.append_assoc acc part]
            have e2 : vals.length + 1 = (vals ++ [v.low + (k : Int)]).length := by simp
            rw [← e, e2]
            exact congrArg some (ointss_app _ _)
        · have h3 : ¬ v.low + k ≤ v.high := of_decide_eq_false g3
          clear g3
          rw [hke (by omega)]
          refine g_loop ?_
          refine ih2 (i + 1, acc ++ (rangeI v.low v.high).map fun n => vals ++ [n]) _ _ ⟨h2, hnx.symm⟩ (by simp only; omega) ⟨rfl, rfl, rfl, rfl, rfl, rfl, rfl, rfl, rfl, rfl, congrArg ii (wsucc (n := 16) (by omega) (by decide)), trivial⟩ rfl ⟨rfl, rfl, trivial⟩ rfl rfl
      · have h2 : out.length ≤ i := by simpa using g2
        clear g2
        rw [List.take_of_length_le h2] at hacc
        refine g_loop ?_
        refine rch_wk (wk_freeze 65 rfl rfl) ?_
        refine rch_wk (wk_imm rfl) ?_
        rw [hacc] at *
        refine ih (j + 1, allStep out v) _ _ ⟨h1, hnext, by simp only; rw [Nat.pow_succ]; omega, hsv⟩ (by simp only; omega) ⟨rfl, rfl, rfl, rfl, rfl, congrArg ii (wsucc (n := 2) (by omega) (by decide)), trivial⟩ rfl trivial rfl rfl
    · have h1 : l.length ≤ j := by simpa using g1
      rw [List.take_of_length_le h1] at hout
      subst hout
      refine g_ret TrydT_ok (r := .tup [intss (allV l), ii 0]) rfl rfl rfl trivial rfl rfl ?_
      rfl
end Go.AI

namespace Go.AI
open Go.Proofs
set_option maxRecDepth 20000
def holdsB (x : Ex) (vals : List Int) : Bool := decide ((evalX x vals).2 = 0 ∧ (evalX x vals).1 = 1)
theorem holds53 (O : List Heap) (x : Ex) (vals : List Int) (hok : exOk x) (hl : vals.length ≤ max63) : ASpec Tryd.prog 53 [exA x, ints vals] O (bb (holdsB x vals)) [] O := by
  have he := fun O => evaluate51A O x vals hok hl
  generalize hR : holdsB x vals = R
  unfold holdsB at hR
  generalize evalX x vals = V at *
  obtain ⟨v, e⟩ := V
  simp only at hR he
  refine aspec_intro TrydT_ok Tryd.func53 rfl Tryd.call53 Tryd.ntmps53 (Nat.le_of_ble_eq_true rfl) fun E => ?_
  refine g_run TrydT_ok Tryd.func53 ?_
  first | refine g_call TrydT_ok Tryd.func53 (he _) rfl rfl rfl rfl rfl ?_ | refine s_callq TrydT_ok (fun _ => he _) rfl rfl rfl ?_
  first | refine g_cnd TrydT_ok Tryd.func53 rfl (fun h1 => ?_) (fun h1 => ?_) | refine g_know TrydT_ok Tryd.func53 rfl (fun h1 => ?_) (fun h1 => ?_) | refine s_know TrydT_ok (fun h1 => ?_) (fun h1 => ?_)
  · have h1 := beqT h1
    subst h1
    subst hR
    refine g_ret TrydT_ok (r := bb (v == 1)) rfl rfl rfl trivial rfl rfl ?_
    by_cases h : v = 1
    · subst h; rfl
    · rw [decide_eq_false (by simp [h])]
      simp [h]
  · have h1 := beqF h1
    subst hR
    refine g_ret TrydT_ok (r := bb false) rfl rfl rfl trivial rfl rfl ?_
    rw [decide_eq_false (by simp [h1])]
theorem truths36 (O : List Heap) (m : Ext) (i : Nat) (vals : List Int) (hi : i < m.moves.length) (hok : extOk m) (hl : vals.length ≤ max63) : ASpec Tryd.prog 36 [extD m, ii i, ints vals] O (bb (holdsB m.moves[i].g vals)) [] O := by
  have hg : (m.moves.map mvI)[(i : Int).toNat]? = some (mvI m.moves[i]) := get_mapZ hi
  have he := fun O => evaluate51A O m.moves[i].g vals (hok.mv _ (List.getElem_mem hi)).1 hl
  generalize m.moves[i] = x at *
  generalize hR : holdsB x.g vals = R
  unfold holdsB at hR
  generalize evalX x.g vals = V at *
  obtain ⟨v, e⟩ := V
  simp only at hR he
  refine aspec_intro TrydT_ok Tryd.func36 rfl Tryd.call36 Tryd.ntmps36 (Nat.le_of_ble_eq_true rfl) fun E => ?_
  refine g_run TrydT_ok Tryd.func36 ?_
  first | refine g_need TrydT_ok Tryd.func36 (by exact ⟨by omega, by show (i : Int) < (m.moves.length : Int); omega⟩) ?_ | refine s_need TrydT_ok (by exact ⟨by omega, by show (i : Int) < (m.moves.length : Int); omega⟩) ?_
  first | refine g_elem TrydT_ok Tryd.func36 (hg) ?_ | refine s_elem TrydT_ok (hg) ?_
  first | refine g_call TrydT_ok Tryd.func36 (he _) rfl rfl rfl rfl rfl ?_ | refine s_callq TrydT_ok (fun _ => he _) rfl rfl rfl ?_
  first | refine g_cnd TrydT_ok Tryd.func36 rfl (fun h1 => ?_) (fun h1 => ?_) | refine g_know TrydT_ok Tryd.func36 rfl (fun h1 => ?_) (fun h1 => ?_) | refine s_know TrydT_ok (fun h1 => ?_) (fun h1 => ?_)
  · have h1 := beqT h1
    subst h1
    subst hR
    refine g_ret TrydT_ok (r := bb (v == 1)) rfl rfl rfl trivial rfl rfl ?_
    by_cases h : v = 1
    · subst h; rfl
    · rw [decide_eq_false (by simp [h])]
      simp [h]
  · have h1 := beqF h1
    subst hR
    refine g_ret TrydT_ok (r := bb false) rfl rfl rfl trivial rfl rfl ?_
    rw [decide_eq_false (by simp [h1])]
abbrev mvC (x : Mv) : List D := [ii x.frm, ii x.ev, ii x.to, ii x.g.op, ii x.g.vl, ii x.g.ix, exs x.g.args, upds x.us]
theorem unusedF55 (O : List Heap) (x : Mv) (vals : List Int) (d nm : Nat) (hok : exOk x.g) (hl : vals.length ≤ max63) (ho : objAt O d nm = some (.box (mvC x))) : ASpec Tryd.prog 55 [ints vals, .own d nm 0 0] O (bb (holdsB x.g vals)) [] O := by
  have hO1 : ∀ H, objAt (H :: O) (d + 1) nm = some (.box (mvC x)) := fun H => by simpa [objAt] using ho
  have hh := fun O => holds53 O x.g vals hok hl
  refine aspec_intro TrydT_ok Tryd.func55 rfl Tryd.call55 Tryd.ntmps55 (Nat.le_of_ble_eq_true rfl) fun E => ?_
  refine g_run TrydT_ok Tryd.func55 ?_
  first | refine g_obj TrydT_ok Tryd.func55 (hO1 _) ?_ | refine s_obj TrydT_ok (hO1 _) ?_
  first | refine g_call TrydT_ok Tryd.func55 (hh _) rfl rfl rfl rfl rfl ?_ | refine s_callq TrydT_ok (fun _ => hh _) rfl rfl rfl ?_
  refine g_ret TrydT_ok (r := bb _) rfl rfl rfl trivial rfl rfl ?_
  rfl
def unL (all : List (List Int)) : List Mv → Nat → List Int
  | [], _ => []
  | x :: r, i => if all.any (holdsB x.g) then unL all r (i + 1) else (i : Int) :: unL all r (i + 1)
/-- Unused, of a sketched automaton. -/
def unusedR (m : Ext) : List Int := unL (allV m.vars) m.moves 0
theorem allV_vals {l : List Vr} : ∀ x ∈ allV l, x.length = l.length := by
  have key : ∀ (l : List Vr) (out : List (List Int)) (n : Nat), (∀ x ∈ out, x.length = n) → ∀ x ∈ l.foldl allStep out, x.length = n + l.length := by
    intro l
    induction l with
    | nil => intro out n h; simpa using h
    | cons v r ih =>
      intro out n h x hx
      have := ih (allStep out v) (n + 1) (allStep_vals h) x hx
      simp only [List.length_cons]
      omega
  intro x hx
  have := key l [[]] 0 (by simp) x hx
  omega
theorem allV_len {l : List Vr} (h2 : l.length ≤ 2) (h : ∀ v ∈ l, vrOk v) : (allV l).length ≤ 16 := by
  match l, h2 with
  | [], _ => decide
  | [a], _ =>
    have := allStep_len (out := [[]]) (h a (by simp))
    simp only [List.length_cons, List.length_nil] at this
    show (allStep [[]] a).length ≤ 16
    omega
  | [a, b], _ =>
    have h1 := allStep_len (out := [[]]) (h a (by simp))
    have h2 := allStep_len (out := allStep [[]] a) (h b (by simp))
    simp only [List.length_cons, List.length_nil] at h1
    show (allStep (allStep [[]] a) b).length ≤ 16
    omega
theorem unused34 (O : List Heap) (m : Ext) (hm : made m) : ASpec Tryd.prog 34 [extD m] O (.tup [ints (unusedR m), ii 0]) [] O := by
  have hok := made_ok hm
  have hck := fun O => check40 O m hok
  rw [made_chk hm] at hck
  have hall := fun O => all35 O m.vars hm.vl hm.v hm.ve
  have hvals := @allV_vals m.vars
  have hal := allV_len hm.vl hm.v
  have hml := hm.ml
  have hvl := hm.vl
  generalize hR : unusedR m = R
  unfold unusedR at hR
  generalize allV m.vars = A at *
  refine aspec_intro TrydT_ok Tryd.func34 rfl Tryd.call34 Tryd.ntmps34 (Nat.le_of_ble_eq_true rfl) fun E => ?_
  refine g_run TrydT_ok Tryd.func34 ?_
  first | refine g_call TrydT_ok Tryd.func34 (hck _) rfl rfl rfl rfl rfl ?_ | refine s_callq TrydT_ok (fun _ => hck _) rfl rfl rfl ?_
  repeat (first | refine g_cnd TrydT_ok Tryd.func34 rfl (fun _ => ?_) (fun h => absurd h (by decide)) | refine g_cnd TrydT_ok Tryd.func34 rfl (fun h => absurd h (by decide)) (fun _ => ?_) | refine g_know TrydT_ok Tryd.func34 rfl (fun _ => ?_) (fun h => absurd h (by decide)) | refine g_know TrydT_ok Tryd.func34 rfl (fun h => absurd h (by decide)) (fun _ => ?_) | refine s_know TrydT_ok (fun _ => ?_) (fun h => absurd h (by decide)) | refine s_know TrydT_ok (fun h => absurd h (by decide)) (fun _ => ?_))
  first | refine g_call TrydT_ok Tryd.func34 (hall _) rfl rfl rfl rfl rfl ?_ | refine s_callq TrydT_ok (fun _ => hall _) rfl rfl rfl ?_
  repeat (first | refine g_cnd TrydT_ok Tryd.func34 rfl (fun _ => ?_) (fun h => absurd h (by decide)) | refine g_cnd TrydT_ok Tryd.func34 rfl (fun h => absurd h (by decide)) (fun _ => ?_) | refine g_know TrydT_ok Tryd.func34 rfl (fun _ => ?_) (fun h => absurd h (by decide)) | refine g_know TrydT_ok Tryd.func34 rfl (fun h => absurd h (by decide)) (fun _ => ?_) | refine s_know TrydT_ok (fun _ => ?_) (fun h => absurd h (by decide)) | refine s_know TrydT_ok (fun h => absurd h (by decide)) (fun _ => ?_))
  refine g_loop ?_
  refine rch_wk (wk_nil 7 39 3 1 rfl rfl rfl) ?_
  refine rch_loop2 (fun x : Nat × List Int => [(1, .own 0 1 0 0), (5, intss A), (7, .osl 0 39), (25, mvs m.moves), (26, ii m.moves.length), (27, ii x.1)]) (fun x => [(1, .box (extC m)), (39, oints x.2)]) (fun _ => O) 42
    (fun x => x.1 ≤ m.moves.length ∧ x.2.length ≤ x.1 ∧ R = x.2 ++ unL A (m.moves.drop x.1) x.1) (fun x => m.moves.length - x.1) (0, []) ⟨Nat.zero_le _, Nat.le_refl _, by rw [← hR]; rfl⟩ ⟨rfl, rfl, rfl, rfl, rfl, rfl, trivial⟩ rfl ⟨rfl, rfl, trivial⟩ rfl rfl ?_
  rintro ⟨i, acc⟩ ⟨hi, hacc, hno⟩ ih
  clear hR
  simp only at hi hacc hno
  refine g_run TrydT_ok Tryd.func34 ?_
  first | refine g_cnd TrydT_ok Tryd.func34 rfl (fun g1 => ?_) (fun g1 => ?_) | refine g_know TrydT_ok Tryd.func34 rfl (fun g1 => ?_) (fun g1 => ?_) | refine s_know TrydT_ok (fun g1 => ?_) (fun g1 => ?_)
  · have h1 : i < m.moves.length := by simpa using g1
    clear g1
    have hd : m.moves.drop i = m.moves[i] :: m.moves.drop (i + 1) := List.drop_eq_getElem_cons h1
    have hg : (m.moves.map mvI)[(i : Int).toNat]? = some (mvI m.moves[i]) := get_mapZ h1
    have hgd := hm.mv _ (List.getElem_mem h1)
    generalize m.moves[i] = x at *
    rw [hd] at hno
    simp only [unL] at hno
    have hcf := fun O hp => containsFunc54 O A 55 0 9 (holdsB x.g) (by simp only [max63]; omega) hp
    first | refine g_need TrydT_ok Tryd.func34 (by exact ⟨by omega, by show (i : Int) < (m.moves.length : Int); omega⟩) ?_ | refine s_need TrydT_ok (by exact ⟨by omega, by show (i : Int) < (m.moves.length : Int); omega⟩) ?_
    first | refine g_elem TrydT_ok Tryd.func34 (hg) ?_ | refine s_elem TrydT_ok (hg) ?_
    first | refine g_call TrydT_ok Tryd.func34 (hcf _ (fun y hy => unusedF55 _ x y 2 9 hgd.gok (by have := hvals y hy; simp only [max63]; omega) (by rfl))) rfl rfl rfl rfl rfl ?_ | refine s_callq TrydT_ok (fun _ => hcf _ (fun y hy => unusedF55 _ x y 2 9 hgd.gok (by have := hvals y hy; simp only [max63]; omega) (by rfl))) rfl rfl rfl ?_
    first | refine g_cnd TrydT_ok Tryd.func34 rfl (fun h2 => ?_) (fun h2 => ?_) | refine g_know TrydT_ok Tryd.func34 rfl (fun h2 => ?_) (fun h2 => ?_) | refine s_know TrydT_ok (fun h2 => ?_) (fun h2 => ?_)
    · have h2 := notT h2
      rw [if_neg (by rw [h2]; simp)] at hno
      first | refine g_need TrydT_ok Tryd.func34 (by exact ⟨by show (acc.length + 1) * 8 ≤ 140737488355328; omega, by show acc.length + 1 ≤ 9223372036854775807; omega⟩) ?_ | refine s_need TrydT_ok (by exact ⟨by show (acc.length + 1) * 8 ≤ 140737488355328; omega, by show acc.length + 1 ≤ 9223372036854775807; omega⟩) ?_
      refine g_loop ?_
      refine ih (i + 1, acc ++ [(i : Int)]) _ _ ⟨h1, by simp only [List.length_append, List.length_singleton]; omega, by rw [hno]; simp⟩ (by simp only; omega) ⟨rfl, rfl, rfl, rfl, rfl, congrArg ii (wsucc (n := 8) (by omega) (by decide)), trivial⟩ rfl ⟨rfl, congrArg some (oints_app acc i), trivial⟩ rfl rfl
    · have h2 := notF h2
      rw [if_pos h2] at hno
      refine g_loop ?_
      refine ih (i + 1, acc) _ _ ⟨h1, by simp only; omega, hno⟩ (by simp only; omega) ⟨rfl, rfl, rfl, rfl, rfl, congrArg ii (wsucc (n := 8) (by omega) (by decide)), trivial⟩ rfl ⟨rfl, rfl, trivial⟩ rfl rfl
  · have h1 : m.moves.length ≤ i := by simpa using g1
    rw [List.drop_eq_nil_of_le h1] at hno
    simp only [unL, List.append_nil] at hno
    subst hno
    refine g_rwk (wk_freeze 39 rfl rfl) ?_
    refine g_ret TrydT_ok (r := .tup [ints R, ii 0]) rfl rfl rfl trivial rfl rfl ?_
    rfl
end Go.AI

namespace Go.AI
open Go.Proofs
set_option maxRecDepth 20000
/-- The first values for which both guards are true. -/
def firstR (all : List (List Int)) (x y : Ex) : List Int × Bool × Int := match all.find? fun v => holdsB x v && holdsB y v with
  | some v => (v, true, 0)
  | none => ([], false, 0)
/-- Overlap, of a sketched automaton. -/
def overR (m : Ext) (i k : Int) : List Int × Bool × Int :=
  if i < 0 ∨ i ≥ m.moves.length ∨ k < 0 ∨ k ≥ m.moves.length then ([], false, 2) else
  match m.moves[i.toNat]?, m.moves[k.toNat]? with
  | some x, some y => if i = k ∨ x.frm ≠ y.frm ∨ x.ev ≠ y.ev then ([], false, 13) else firstR (allV m.vars) x.g y.g
  | _, _ => ([], false, 0)
theorem coNo {e : Int} : CoD (.tup [.i (.v (.slice none 0 0)), bb false, ii e]) (.tup [ints [], bb false, ii e]) := coD_tup (.cons (coD_i coI_nil) (CoDL.refl _))
theorem overlap33 (O : List Heap) (m : Ext) (i k : Int) (hm : made m) : ASpec Tryd.prog 33 [extD m, ii i, ii k] O (.tup [ints (overR m i k).1, bb (overR m i k).2.1, ii (overR m i k).2.2]) [] O := by
  have hok := made_ok hm
  have hck := fun O => check40 O m hok
  rw [made_chk hm] at hck
  have hall := fun O => all35 O m.vars hm.vl hm.v hm.ve
  have hvals := @allV_vals m.vars
  have hal := allV_len hm.vl hm.v
  have hml := hm.ml
  have hvl := hm.vl
  generalize hR : overR m i k = R
  unfold overR at hR
  have bad : (i < 0 ∨ i ≥ m.moves.length ∨ k < 0 ∨ k ≥ m.moves.length) → R = ([], false, 2) := fun h => by rw [← hR, if_pos h]
  have good : ¬ (i < 0 ∨ i ≥ m.moves.length ∨ k < 0 ∨ k ≥ m.moves.length) → R = match m.moves[i.toNat]?, m.moves[k.toNat]? with
    | some x, some y => if i = k ∨ x.frm ≠ y.frm ∨ x.ev ≠ y.ev then ([], false, 13) else firstR (allV m.vars) x.g y.g
    | _, _ => ([], false, 0) := fun h => by rw [← hR, if_neg h]
  clear hR
  generalize allV m.vars = A at *
  refine aspec_stop [9] TrydT_ok Tryd.func33 rfl Tryd.call33 Tryd.ntmps33 (Nat.le_of_ble_eq_true rfl) fun E => ?_
  refine g_run TrydT_ok Tryd.func33 ?_
  first | refine g_call TrydT_ok Tryd.func33 (hck _) rfl rfl rfl rfl rfl ?_ | refine s_callq TrydT_ok (fun _ => hck _) rfl rfl rfl ?_
  repeat (first | refine g_cnd TrydT_ok Tryd.func33 rfl (fun _ => ?_) (fun h => absurd h (by decide)) | refine g_cnd TrydT_ok Tryd.func33 rfl (fun h => absurd h (by decide)) (fun _ => ?_) | refine g_know TrydT_ok Tryd.func33 rfl (fun _ => ?_) (fun h => absurd h (by decide)) | refine g_know TrydT_ok Tryd.func33 rfl (fun h => absurd h (by decide)) (fun _ => ?_) | refine s_know TrydT_ok (fun _ => ?_) (fun h => absurd h (by decide)) | refine s_know TrydT_ok (fun h => absurd h (by decide)) (fun _ => ?_))
  first | refine g_cnd TrydT_ok Tryd.func33 rfl (fun h1 => ?_) (fun h1 => ?_) | refine g_know TrydT_ok Tryd.func33 rfl (fun h1 => ?_) (fun h1 => ?_) | refine s_know TrydT_ok (fun h1 => ?_) (fun h1 => ?_)
  · have := bad (.inl (of_decide_eq_true h1))
    subst this
    repeat (first | refine g_cnd TrydT_ok Tryd.func33 rfl (fun _ => ?_) (fun h => absurd h (by decide)) | refine g_cnd TrydT_ok Tryd.func33 rfl (fun h => absurd h (by decide)) (fun _ => ?_) | refine g_know TrydT_ok Tryd.func33 rfl (fun _ => ?_) (fun h => absurd h (by decide)) | refine g_know TrydT_ok Tryd.func33 rfl (fun h => absurd h (by decide)) (fun _ => ?_) | refine s_know TrydT_ok (fun _ => ?_) (fun h => absurd h (by decide)) | refine s_know TrydT_ok (fun h => absurd h (by decide)) (fun _ => ?_))
    refine g_ret_co TrydT_ok (r := _) rfl rfl rfl trivial rfl rfl ?_
    exact coNo
  have h1 : ¬ i < 0 := of_decide_eq_false h1
  first | refine g_cnd TrydT_ok Tryd.func33 rfl (fun h2 => ?_) (fun h2 => ?_) | refine g_know TrydT_ok Tryd.func33 rfl (fun h2 => ?_) (fun h2 => ?_) | refine s_know TrydT_ok (fun h2 => ?_) (fun h2 => ?_)
  · have := bad (.inr (.inl (of_decide_eq_true h2)))
    subst this
    repeat (first | refine g_cnd TrydT_ok Tryd.func33 rfl (fun _ => ?_) (fun h => absurd h (by decide)) | refine g_cnd TrydT_ok Tryd.func33 rfl (fun h => absurd h (by decide)) (fun _ => ?_) | refine g_know TrydT_ok Tryd.func33 rfl (fun _ => ?_) (fun h => absurd h (by decide)) | refine g_know TrydT_ok Tryd.func33 rfl (fun h => absurd h (by decide)) (fun _ => ?_) | refine s_know TrydT_ok (fun _ => ?_) (fun h => absurd h (by decide)) | refine s_know TrydT_ok (fun h => absurd h (by decide)) (fun _ => ?_))
    refine g_ret_co TrydT_ok (r := _) rfl rfl rfl trivial rfl rfl ?_
    exact coNo
  have h2 : ¬ i ≥ m.moves.length := of_decide_eq_false h2
  first | refine g_cnd TrydT_ok Tryd.func33 rfl (fun h3 => ?_) (fun h3 => ?_) | refine g_know TrydT_ok Tryd.func33 rfl (fun h3 => ?_) (fun h3 => ?_) | refine s_know TrydT_ok (fun h3 => ?_) (fun h3 => ?_)
  · have := bad (.inr (.inr (.inl (of_decide_eq_true h3))))
    subst this
    repeat (first | refine g_cnd TrydT_ok Tryd.func33 rfl (fun _ => ?_) (fun h => absurd h (by decide)) | refine g_cnd TrydT_ok Tryd.func33 rfl (fun h => absurd h (by decide)) (fun _ => ?_) | refine g_know TrydT_ok Tryd.func33 rfl (fun _ => ?_) (fun h => absurd h (by decide)) | refine g_know TrydT_ok Tryd.func33 rfl (fun h => absurd h (by decide)) (fun _ => ?_) | refine s_know TrydT_ok (fun _ => ?_) (fun h => absurd h (by decide)) | refine s_know TrydT_ok (fun h => absurd h (by decide)) (fun _ => ?_))
    refine g_ret_co TrydT_ok (r := _) rfl rfl rfl trivial rfl rfl ?_
    exact coNo
  have h3 : ¬ k < 0 := of_decide_eq_false h3
  first | refine g_cnd TrydT_ok Tryd.func33 rfl (fun h4 => ?_) (fun h4 => ?_) | refine g_know TrydT_ok Tryd.func33 rfl (fun h4 => ?_) (fun h4 => ?_) | refine s_know TrydT_ok (fun h4 => ?_) (fun h4 => ?_)
  · have := bad (.inr (.inr (.inr (of_decide_eq_true h4))))
    subst this
    refine g_ret_co TrydT_ok (r := _) rfl rfl rfl trivial rfl rfl ?_
    exact coNo
  have h4 : ¬ k ≥ m.moves.length := of_decide_eq_false h4
  have good := good (by omega)
  clear bad
  have hi : i.toNat < m.moves.length := by omega
  have hk : k.toNat < m.moves.length := by omega
  rw [List.getElem?_eq_getElem hi, List.getElem?_eq_getElem hk] at good
  simp only at good
  have gx : (m.moves.map mvI)[i.toNat]? = some (mvI m.moves[i.toNat]) := by simp [hi]
  have gy : (m.moves.map mvI)[k.toNat]? = some (mvI m.moves[k.toNat]) := by simp [hk]
  have hgx := hm.mv _ (List.getElem_mem hi)
  have hgy := hm.mv _ (List.getElem_mem hk)
  generalize m.moves[i.toNat] = x at *
  generalize m.moves[k.toNat] = y at *
  have conf : (i = k ∨ x.frm ≠ y.frm ∨ x.ev ≠ y.ev) → R = ([], false, 13) := fun h => by rw [good, if_pos h]
  have free : ¬ (i = k ∨ x.frm ≠ y.frm ∨ x.ev ≠ y.ev) → R = firstR A x.g y.g := fun h => by rw [good, if_neg h]
  clear good
  have hbi : 0 ≤ i ∧ i < (m.moves.length : Int) := by omega
  have hbk : 0 ≤ k ∧ k < (m.moves.length : Int) := by omega
  refine g_drawn TrydT_ok Tryd.func33 mixedT rfl ?_
  first | refine g_need TrydT_ok Tryd.func33 (by exact hbi) ?_ | refine s_need TrydT_ok (by exact hbi) ?_
  first | refine g_elem TrydT_ok Tryd.func33 (gx) ?_ | refine s_elem TrydT_ok (gx) ?_
  first | refine g_need TrydT_ok Tryd.func33 (by exact hbk) ?_ | refine s_need TrydT_ok (by exact hbk) ?_
  first | refine g_elem TrydT_ok Tryd.func33 (gy) ?_ | refine s_elem TrydT_ok (gy) ?_
  refine s_put TrydT_ok rfl rfl rfl ?_
  refine s_put TrydT_ok rfl rfl rfl ?_
  refine e_done TrydT_ok Tryd.func33 (by kernel_rfl) ?_
  first | refine g_cnd TrydT_ok Tryd.func33 rfl (fun h5 => ?_) (fun h5 => ?_) | refine g_know TrydT_ok Tryd.func33 rfl (fun h5 => ?_) (fun h5 => ?_) | refine s_know TrydT_ok (fun h5 => ?_) (fun h5 => ?_)
  · have := conf (.inl (beqT h5))
    subst this
    repeat (first | refine g_cnd TrydT_ok Tryd.func33 rfl (fun _ => ?_) (fun h => absurd h (by decide)) | refine g_cnd TrydT_ok Tryd.func33 rfl (fun h => absurd h (by decide)) (fun _ => ?_) | refine g_know TrydT_ok Tryd.func33 rfl (fun _ => ?_) (fun h => absurd h (by decide)) | refine g_know TrydT_ok Tryd.func33 rfl (fun h => absurd h (by decide)) (fun _ => ?_) | refine s_know TrydT_ok (fun _ => ?_) (fun h => absurd h (by decide)) | refine s_know TrydT_ok (fun h => absurd h (by decide)) (fun _ => ?_))
    refine g_ret_co TrydT_ok (r := _) rfl rfl rfl trivial rfl rfl ?_
    exact coNo
  have h5 := beqF h5
  first | refine g_cnd TrydT_ok Tryd.func33 rfl (fun h6 => ?_) (fun h6 => ?_) | refine g_know TrydT_ok Tryd.func33 rfl (fun h6 => ?_) (fun h6 => ?_) | refine s_know TrydT_ok (fun h6 => ?_) (fun h6 => ?_)
  · have := conf (.inr (.inl (bneT h6)))
    subst this
    repeat (first | refine g_cnd TrydT_ok Tryd.func33 rfl (fun _ => ?_) (fun h => absurd h (by decide)) | refine g_cnd TrydT_ok Tryd.func33 rfl (fun h => absurd h (by decide)) (fun _ => ?_) | refine g_know TrydT_ok Tryd.func33 rfl (fun _ => ?_) (fun h => absurd h (by decide)) | refine g_know TrydT_ok Tryd.func33 rfl (fun h => absurd h (by decide)) (fun _ => ?_) | refine s_know TrydT_ok (fun _ => ?_) (fun h => absurd h (by decide)) | refine s_know TrydT_ok (fun h => absurd h (by decide)) (fun _ => ?_))
    refine g_ret_co TrydT_ok (r := _) rfl rfl rfl trivial rfl rfl ?_
    exact coNo
  have h6 := bneF h6
  first | refine g_cnd TrydT_ok Tryd.func33 rfl (fun h7 => ?_) (fun h7 => ?_) | refine g_know TrydT_ok Tryd.func33 rfl (fun h7 => ?_) (fun h7 => ?_) | refine s_know TrydT_ok (fun h7 => ?_) (fun h7 => ?_)
  · have := conf (.inr (.inr (bneT h7)))
    subst this
    refine g_ret_co TrydT_ok (r := _) rfl rfl rfl trivial rfl rfl ?_
    exact coNo
  have h7 := bneF h7
  have hR := free (by rintro (h | h | h); exact h5 h; exact h h6; exact h h7)
  clear conf free
  refine g_stop ?_
  refine g_run TrydT_ok Tryd.func33 ?_
  refine g_go TrydT_ok Tryd.func33 ?_
  first | refine g_call TrydT_ok Tryd.func33 (hall _) rfl rfl rfl rfl rfl ?_ | refine s_callq TrydT_ok (fun _ => hall _) rfl rfl rfl ?_
  repeat (first | refine g_cnd TrydT_ok Tryd.func33 rfl (fun _ => ?_) (fun h => absurd h (by decide)) | refine g_cnd TrydT_ok Tryd.func33 rfl (fun h => absurd h (by decide)) (fun _ => ?_) | refine g_know TrydT_ok Tryd.func33 rfl (fun _ => ?_) (fun h => absurd h (by decide)) | refine g_know TrydT_ok Tryd.func33 rfl (fun h => absurd h (by decide)) (fun _ => ?_) | refine s_know TrydT_ok (fun _ => ?_) (fun h => absurd h (by decide)) | refine s_know TrydT_ok (fun h => absurd h (by decide)) (fun _ => ?_))
  refine g_loop ?_
  refine rch_loop2 (fun n : Nat => [(10, .own 0 10 0 0), (11, .own 0 11 0 0), (76, intss A), (77, ii A.length), (78, ii n)]) (fun _ => [(10, .box (mvC x)), (11, .box (mvC y))]) (fun _ => O) 94
    (fun n => n ≤ A.length ∧ R = firstR (A.drop n) x.g y.g) (fun n => A.length - n) 0 ⟨Nat.zero_le _, hR⟩ ⟨rfl, rfl, rfl, rfl, rfl, trivial⟩ rfl ⟨rfl, rfl, trivial⟩ rfl rfl ?_
  rintro n ⟨hn, hno⟩ ih
  clear hR
  refine g_run TrydT_ok Tryd.func33 ?_
  first | refine g_cnd TrydT_ok Tryd.func33 rfl (fun g1 => ?_) (fun g1 => ?_) | refine g_know TrydT_ok Tryd.func33 rfl (fun g1 => ?_) (fun g1 => ?_) | refine s_know TrydT_ok (fun g1 => ?_) (fun g1 => ?_)
  · have h8 : n < A.length := by simpa using g1
    clear g1
    have hd : A.drop n = A[n] :: A.drop (n + 1) := List.drop_eq_getElem_cons h8
    have hg : (A.map fun x => [intsI x])[(n : Int).toNat]? = some [intsI A[n]] := get_mapZ (f := fun x => [intsI x]) h8
    have hvl2 := hvals _ (List.getElem_mem h8)
    generalize A[n] = v at *
    have hx := fun O => holds53 O x.g v hgx.gok (by simp only [max63]; omega)
    have hy := fun O => holds53 O y.g v hgy.gok (by simp only [max63]; omega)
    have step : holdsB x.g v = false ∨ holdsB y.g v = false → R = firstR (A.drop (n + 1)) x.g y.g := by
      intro h
      rw [hno, hd]
      unfold firstR
      rw [List.find?_cons]
      have : (holdsB x.g v && holdsB y.g v) = false := by rcases h with h | h <;> simp [h]
      simp only [this]
    have hit : holdsB x.g v = true → holdsB y.g v = true → R = (v, true, 0) := by
      intro h h'
      rw [hno, hd]
      unfold firstR
      rw [List.find?_cons]
      simp only [h, h', Bool.and_self]
    clear hno
    generalize holdsB x.g v = bx at *
    generalize holdsB y.g v = bY at *
    first | refine g_need TrydT_ok Tryd.func33 (by exact ⟨by omega, by show (n : Int) < (A.length : Int); omega⟩) ?_ | refine s_need TrydT_ok (by exact ⟨by omega, by show (n : Int) < (A.length : Int); omega⟩) ?_
    first | refine g_elem TrydT_ok Tryd.func33 (hg) ?_ | refine s_elem TrydT_ok (hg) ?_
    first | refine g_call TrydT_ok Tryd.func33 (hx _) rfl rfl rfl rfl rfl ?_ | refine s_callq TrydT_ok (fun _ => hx _) rfl rfl rfl ?_
    first | refine g_cnd TrydT_ok Tryd.func33 rfl (fun h9 => ?_) (fun h9 => ?_) | refine g_know TrydT_ok Tryd.func33 rfl (fun h9 => ?_) (fun h9 => ?_) | refine s_know TrydT_ok (fun h9 => ?_) (fun h9 => ?_)
    · first | refine g_call TrydT_ok Tryd.func33 (hy _) rfl rfl rfl rfl rfl ?_ | refine s_callq TrydT_ok (fun _ => hy _) rfl rfl rfl ?_
      first | refine g_cnd TrydT_ok Tryd.func33 rfl (fun h10 => ?_) (fun h10 => ?_) | refine g_know TrydT_ok Tryd.func33 rfl (fun h10 => ?_) (fun h10 => ?_) | refine s_know TrydT_ok (fun h10 => ?_) (fun h10 => ?_)
      · have := hit h9 h10
        subst this
        refine g_ret TrydT_ok (r := .tup [ints v, bb true, ii 0]) rfl rfl rfl trivial rfl rfl ?_
        rfl
      · refine g_loop ?_
        exact ih (n + 1) _ _ ⟨h8, step (.inr h10)⟩ (by omega) ⟨rfl, rfl, rfl, rfl, congrArg ii (wsucc (n := 16) (by omega) (by decide)), trivial⟩ rfl ⟨rfl, rfl, trivial⟩ rfl rfl
    · repeat (first | refine g_cnd TrydT_ok Tryd.func33 rfl (fun _ => ?_) (fun h => absurd h (by decide)) | refine g_cnd TrydT_ok Tryd.func33 rfl (fun h => absurd h (by decide)) (fun _ => ?_) | refine g_know TrydT_ok Tryd.func33 rfl (fun _ => ?_) (fun h => absurd h (by decide)) | refine g_know TrydT_ok Tryd.func33 rfl (fun h => absurd h (by decide)) (fun _ => ?_) | refine s_know TrydT_ok (fun _ => ?_) (fun h => absurd h (by decide)) | refine s_know TrydT_ok (fun h => absurd h (by decide)) (fun _ => ?_))
      refine g_loop ?_
      exact ih (n + 1) _ _ ⟨h8, step (.inl h9)⟩ (by omega) ⟨rfl, rfl, rfl, rfl, congrArg ii (wsucc (n := 16) (by omega) (by decide)), trivial⟩ rfl ⟨rfl, rfl, trivial⟩ rfl rfl
  · have h8 : A.length ≤ n := by simpa using g1
    rw [List.drop_eq_nil_of_le h8] at hno
    have : R = ([], false, 0) := hno
    subst this
    refine g_ret_co TrydT_ok (r := _) rfl rfl rfl trivial rfl rfl ?_
    exact coNo
end Go.AI

namespace Go.AI
open Go.Proofs
set_option maxRecDepth 20000
theorem unL_len (A : List (List Int)) : ∀ (l : List Mv) (i : Nat), (unL A l i).length ≤ l.length
  | [], i => Nat.le_refl _
  | x :: r, i => by
    have := unL_len A r (i + 1)
    simp only [unL]
    split
    · simp only [List.length_cons]; omega
    · simp only [List.length_cons]; omega
theorem drop_cons {α : Type} {l : List α} {n : Nat} {a : α} {r : List α} (h : l.drop n = a :: r) : n < l.length ∧ l[n]? = some a ∧ l.drop (n + 1) = r := by
  have h1 : n < l.length := by
    apply Nat.lt_of_not_le
    intro hc
    rw [List.drop_eq_nil_of_le hc] at h
    cases h
  rw [List.drop_eq_getElem_cons h1] at h
  simp only [List.cons.injEq] at h
  exact ⟨h1, by rw [List.getElem?_eq_getElem h1, h.1], h.2⟩
set_option maxHeartbeats 4000000 in
theorem overlaps8 {g : Nat} (hg : IsTab g) {ty : TypeId} {fr : Nat × Nat} (O : List Heap) (k : Sk) (i j : Int) (hk : skOk k) : ASpecT g (ptab ty fr) Tryd.prog 8 [skD k, ii i, ii j] O (bb true) [] O := by
  have hkn := fun O => known11 hg (ty := ty) (fr := fr) O
  have hmk := fun O => make16 O k hk
  have hm := make_made hk
  generalize makeR k = m at *
  have hok := made_ok hm
  have hall := fun O => all35 O m.vars hm.vl hm.v hm.ve
  have h33 := fun O => overlap33 O m i j hm
  have h34 := fun O => unused34 O m hm
  have h36 := fun O i (vals : List Int) hi hl => truths36 O m i vals hi hok hl
  have hvals := @allV_vals m.vars
  have hal := allV_len hm.vl hm.v
  have hml := hm.ml
  have hvl := hm.vl
  have hR : overR m i j = if i < 0 ∨ i ≥ m.moves.length ∨ j < 0 ∨ j ≥ m.moves.length then ([], false, 2) else
      match m.moves[i.toNat]?, m.moves[j.toNat]? with
      | some x, some y => if i = j ∨ x.frm ≠ y.frm ∨ x.ev ≠ y.ev then ([], false, 13) else firstR (allV m.vars) x.g y.g
      | _, _ => ([], false, 0) := rfl
  have hul : (unusedR m).length ≤ m.moves.length := unL_len _ _ _
  have hu : unusedR m = unL (allV m.vars) m.moves 0 := rfl
  generalize overR m i j = R at *
  generalize unusedR m = u at *
  generalize allV m.vars = A at *
  obtain ⟨ol, ob, oe⟩ := R
  simp only at h33
  refine aspecT_stop [9, 22, 24] TrydT_ok Tryd.func8 rfl Tryd.call8 Tryd.ntmps8 (Nat.le_of_ble_eq_true rfl) fun E hE => ?_
  refine g_run TrydT_ok Tryd.func8 ?_
  refine g_callT TrydT_ok Tryd.func8 hE (hkn _) rfl rfl rfl rfl rfl rfl ?_
  repeat (first | refine g_cnd TrydT_ok Tryd.func8 rfl (fun _ => ?_) (fun h => absurd h (by decide)) | refine g_cnd TrydT_ok Tryd.func8 rfl (fun h => absurd h (by decide)) (fun _ => ?_) | refine g_know TrydT_ok Tryd.func8 rfl (fun _ => ?_) (fun h => absurd h (by decide)) | refine g_know TrydT_ok Tryd.func8 rfl (fun h => absurd h (by decide)) (fun _ => ?_) | refine s_know TrydT_ok (fun _ => ?_) (fun h => absurd h (by decide)) | refine s_know TrydT_ok (fun h => absurd h (by decide)) (fun _ => ?_))
  first | refine g_call TrydT_ok Tryd.func8 (hmk _) rfl rfl rfl rfl rfl ?_ | refine s_callq TrydT_ok (fun _ => hmk _) rfl rfl rfl ?_
  first | refine g_call TrydT_ok Tryd.func8 (h33 _) rfl rfl rfl rfl rfl ?_ | refine s_callq TrydT_ok (fun _ => h33 _) rfl rfl rfl ?_
  first | refine g_call TrydT_ok Tryd.func8 (h34 _) rfl rfl rfl rfl rfl ?_ | refine s_callq TrydT_ok (fun _ => h34 _) rfl rfl rfl ?_
  first | refine g_call TrydT_ok Tryd.func8 (hall _) rfl rfl rfl rfl rfl ?_ | refine s_callq TrydT_ok (fun _ => hall _) rfl rfl rfl ?_
  repeat (first | refine g_cnd TrydT_ok Tryd.func8 rfl (fun _ => ?_) (fun h => absurd h (by decide)) | refine g_cnd TrydT_ok Tryd.func8 rfl (fun h => absurd h (by decide)) (fun _ => ?_) | refine g_know TrydT_ok Tryd.func8 rfl (fun _ => ?_) (fun h => absurd h (by decide)) | refine g_know TrydT_ok Tryd.func8 rfl (fun h => absurd h (by decide)) (fun _ => ?_) | refine s_know TrydT_ok (fun _ => ?_) (fun h => absurd h (by decide)) | refine s_know TrydT_ok (fun h => absurd h (by decide)) (fun _ => ?_))
  refine g_stop ?_
  refine rch_meet (l := [(1, ii i), (2, ii j), (7, .own 0 7 0 0), (8, ints ol), (9, bb ob), (10, ii oe), (11, ints u), (13, intss A)]) (Hv := [(7, .box (extC m))]) (n := 212) ?_ ⟨rfl, rfl, rfl, rfl, rfl, rfl, rfl, rfl, trivial⟩ rfl ⟨rfl, trivial⟩ rfl rfl
  clear hmk h33 h34 hall hkn
  apply join_p (P := True) (s6 := { σ := [(1, ii i), (2, ii j), (7, .own 0 7 0 0), (8, ints ol), (9, bb ob), (10, ii oe), (13, intss A)], S := [(7, .box (extC m))] :: O, n := 212 })
  · intro J
    refine g_run TrydT_ok Tryd.func8 ?_
    refine g_go TrydT_ok Tryd.func8 ?_
    refine g_loop ?_
    refine rch_loop2 (fun x : Nat × Nat => [(1, ii i), (2, ii j), (7, .own 0 7 0 0), (8, ints ol), (9, bb ob), (10, ii oe), (11, ints u), (13, intss A), (15, ii x.2), (16, ii x.1)]) (fun _ => [(7, .box (extC m))]) (fun _ => O) 212
      (fun x => x.1 ≤ m.moves.length ∧ x.2 ≤ u.length ∧ u.drop x.2 = unL A (m.moves.drop x.1) x.1) (fun x => m.moves.length - x.1) (0, 0) ⟨Nat.zero_le _, Nat.zero_le _, by rw [hu]; rfl⟩ ⟨rfl, rfl, rfl, rfl, rfl, rfl, rfl, rfl, rfl, rfl, trivial⟩ rfl ⟨rfl, trivial⟩ rfl rfl ?_
    rintro ⟨x, n⟩ ⟨hx, hn, hno⟩ ih
    simp only at hx hn hno
    refine g_run TrydT_ok Tryd.func8 ?_
    first | refine g_cnd TrydT_ok Tryd.func8 rfl (fun g1 => ?_) (fun g1 => ?_) | refine g_know TrydT_ok Tryd.func8 rfl (fun g1 => ?_) (fun g1 => ?_) | refine s_know TrydT_ok (fun g1 => ?_) (fun g1 => ?_)
    · have h1 : x < m.moves.length := by simpa using g1
      clear g1
      have hd : m.moves.drop x = m.moves[x] :: m.moves.drop (x + 1) := List.drop_eq_getElem_cons h1
      rw [hd] at hno
      simp only [unL] at hno
      have h36 := fun O vals hl => h36 O x vals h1 hl
      generalize m.moves[x] = mv at *
      refine g_loop ?_
      refine rch_loop2 (fun y : Nat × Bool => [(1, ii i), (2, ii j), (7, .own 0 7 0 0), (8, ints ol), (9, bb ob), (10, ii oe), (11, ints u), (13, intss A), (15, ii n), (16, ii x), (17, bb y.2), (18, ii y.1)]) (fun _ => [(7, .box (extC m))]) (fun _ => O) 212
        (fun y => y.1 ≤ A.length ∧ A.any (holdsB mv.g) = (y.2 || (A.drop y.1).any (holdsB mv.g))) (fun y => A.length - y.1) (0, false) ⟨Nat.zero_le _, by simp⟩ ⟨rfl, rfl, rfl, rfl, rfl, rfl, rfl, rfl, rfl, rfl, rfl, rfl, trivial⟩ rfl ⟨rfl, trivial⟩ rfl rfl ?_
      rintro ⟨v, b⟩ ⟨hv, hb⟩ ih2
      simp only at hv hb
      refine g_run TrydT_ok Tryd.func8 ?_
      first | refine g_cnd TrydT_ok Tryd.func8 rfl (fun g2 => ?_) (fun g2 => ?_) | refine g_know TrydT_ok Tryd.func8 rfl (fun g2 => ?_) (fun g2 => ?_) | refine s_know TrydT_ok (fun g2 => ?_) (fun g2 => ?_)
      · have h2 : v < A.length := by simpa using g2
        clear g2
        have hdA : A.drop v = A[v] :: A.drop (v + 1) := List.drop_eq_getElem_cons h2
        have hgA : (A.map fun x => [intsI x])[(v : Int).toNat]? = some [intsI A[v]] := get_mapZ (f := fun x => [intsI x]) h2
        have hvl2 := hvals _ (List.getElem_mem h2)
        generalize A[v] = vals at *
        rw [hdA, List.any_cons] at hb
        have h36 := fun O => h36 O vals (by simp only [max63]; omega)
        generalize holdsB mv.g vals = hv2 at *
        refine g_drawn TrydT_ok Tryd.func8 mixedT rfl ?_
        cases b with
        | true =>
          first | refine g_cnd TrydT_ok Tryd.func8 rfl (fun h3 => ?_) (fun h3 => ?_) | refine g_know TrydT_ok Tryd.func8 rfl (fun h3 => ?_) (fun h3 => ?_) | refine s_know TrydT_ok (fun h3 => ?_) (fun h3 => ?_)
          rotate_left
          · exact absurd h3 (by simp)
          refine e_done TrydT_ok Tryd.func8 (by kernel_rfl) ?_
          refine g_loop ?_
          exact ih2 (v + 1, true) _ _ ⟨h2, by rw [hb]; simp⟩ (by simp only; omega) ⟨rfl, rfl, rfl, rfl, rfl, rfl, rfl, rfl, rfl, rfl, rfl, congrArg ii (wsucc (n := 16) (by omega) (by decide)), trivial⟩ rfl ⟨rfl, trivial⟩ rfl rfl
        | false =>
          first | refine g_cnd TrydT_ok Tryd.func8 rfl (fun h3 => ?_) (fun h3 => ?_) | refine g_know TrydT_ok Tryd.func8 rfl (fun h3 => ?_) (fun h3 => ?_) | refine s_know TrydT_ok (fun h3 => ?_) (fun h3 => ?_)
          · exact absurd h3 (by simp)
          first | refine g_need TrydT_ok Tryd.func8 (by exact ⟨by omega, by show (v : Int) < (A.length : Int); omega⟩) ?_ | refine s_need TrydT_ok (by exact ⟨by omega, by show (v : Int) < (A.length : Int); omega⟩) ?_
          first | refine g_elem TrydT_ok Tryd.func8 (hgA) ?_ | refine s_elem TrydT_ok (hgA) ?_
          first | refine g_call TrydT_ok Tryd.func8 (h36 _) rfl rfl rfl rfl rfl ?_ | refine s_callq TrydT_ok (fun _ => h36 _) rfl rfl rfl ?_
          refine e_done TrydT_ok Tryd.func8 (by kernel_rfl) ?_
          refine g_loop ?_
          exact ih2 (v + 1, hv2) _ _ ⟨h2, by rw [hb]; simp⟩ (by simp only; omega) ⟨rfl, rfl, rfl, rfl, rfl, rfl, rfl, rfl, rfl, rfl, rfl, congrArg ii (wsucc (n := 16) (by omega) (by decide)), trivial⟩ rfl ⟨rfl, trivial⟩ rfl rfl
      · have h2 : A.length ≤ v := by simpa using g2
        clear g2 ih2
        rw [List.drop_eq_nil_of_le h2, List.any_nil, Bool.or_false] at hb
        rw [hb] at hno
        cases b with
        | true =>
          rw [if_pos rfl] at hno
          first | refine g_cnd TrydT_ok Tryd.func8 rfl (fun h3 => ?_) (fun h3 => ?_) | refine g_know TrydT_ok Tryd.func8 rfl (fun h3 => ?_) (fun h3 => ?_) | refine s_know TrydT_ok (fun h3 => ?_) (fun h3 => ?_)
          rotate_left
          · exact absurd h3 (by simp)
          refine g_loop ?_
          exact ih (x + 1, n) _ _ ⟨h1, hn, hno⟩ (by simp only; omega) ⟨rfl, rfl, rfl, rfl, rfl, rfl, rfl, rfl, rfl, congrArg ii (wsucc (n := 8) (by omega) (by decide)), trivial⟩ rfl ⟨rfl, trivial⟩ rfl rfl
        | false =>
          rw [if_neg (by simp)] at hno
          obtain ⟨hn1, hn2, hn3⟩ := drop_cons hno
          have hgu : (u.map fun x => [vi x])[(n : Int).toNat]? = some [vi (x : Int)] := by simp [hn2]
          first | refine g_cnd TrydT_ok Tryd.func8 rfl (fun h3 => ?_) (fun h3 => ?_) | refine g_know TrydT_ok Tryd.func8 rfl (fun h3 => ?_) (fun h3 => ?_) | refine s_know TrydT_ok (fun h3 => ?_) (fun h3 => ?_)
          · exact absurd h3 (by simp)
          first | refine g_cnd TrydT_ok Tryd.func8 rfl (fun h4 => ?_) (fun h4 => ?_) | refine g_know TrydT_ok Tryd.func8 rfl (fun h4 => ?_) (fun h4 => ?_) | refine s_know TrydT_ok (fun h4 => ?_) (fun h4 => ?_)
          · have h4 : (n : Int) ≥ (u.length : Int) := of_decide_eq_true h4
            omega
          first | refine g_need TrydT_ok Tryd.func8 (by exact ⟨by omega, by show (n : Int) < (u.length : Int); omega⟩) ?_ | refine s_need TrydT_ok (by exact ⟨by omega, by show (n : Int) < (u.length : Int); omega⟩) ?_
          first | refine g_elem TrydT_ok Tryd.func8 (hgu) ?_ | refine s_elem TrydT_ok (hgu) ?_
          first | refine g_cnd TrydT_ok Tryd.func8 rfl (fun h5 => ?_) (fun h5 => ?_) | refine g_know TrydT_ok Tryd.func8 rfl (fun h5 => ?_) (fun h5 => ?_) | refine s_know TrydT_ok (fun h5 => ?_) (fun h5 => ?_)
          · exact absurd rfl (bneT h5)
          refine g_loop ?_
          exact ih (x + 1, n + 1) _ _ ⟨h1, hn1, hn3⟩ (by simp only; omega) ⟨rfl, rfl, rfl, rfl, rfl, rfl, rfl, rfl, congrArg ii (wsucc (n := 8) (by omega) (by decide)), congrArg ii (wsucc (n := 8) (by omega) (by decide)), trivial⟩ rfl ⟨rfl, trivial⟩ rfl rfl
    · have h1 : m.moves.length ≤ x := by simpa using g1
      clear g1 ih
      rw [List.drop_eq_nil_of_le h1] at hno
      have hno : u.drop n = [] := hno
      rw [List.drop_eq_nil_iff] at hno
      refine g_stop ?_
      refine g_run TrydT_ok Tryd.func8 ?_
      refine g_go TrydT_ok Tryd.func8 ?_
      first | refine g_cnd TrydT_ok Tryd.func8 rfl (fun h2 => ?_) (fun h2 => ?_) | refine g_know TrydT_ok Tryd.func8 rfl (fun h2 => ?_) (fun h2 => ?_) | refine s_know TrydT_ok (fun h2 => ?_) (fun h2 => ?_)
      · have h2 := bneT h2
        exact absurd (by show (n : Int) = (u.length : Int); omega) h2
      refine g_stop ?_
      refine rch_meet (J trivial) ⟨rfl, rfl, rfl, rfl, rfl, rfl, rfl, trivial⟩ rfl ⟨rfl, trivial⟩ rfl rfl
  · intro _
    refine g_run TrydT_ok Tryd.func8 ?_
    refine g_go TrydT_ok Tryd.func8 ?_
    have out : (i < 0 ∨ i ≥ m.moves.length ∨ j < 0 ∨ j ≥ m.moves.length) → ol = [] ∧ ob = false ∧ oe = 2 := fun h => by
      rw [if_pos h] at hR
      simp only [Prod.mk.injEq] at hR
      exact hR
    first | refine g_cnd TrydT_ok Tryd.func8 rfl (fun h1 => ?_) (fun h1 => ?_) | refine g_know TrydT_ok Tryd.func8 rfl (fun h1 => ?_) (fun h1 => ?_) | refine s_know TrydT_ok (fun h1 => ?_) (fun h1 => ?_)
    · obtain ⟨rfl, rfl, rfl⟩ := out (.inl (of_decide_eq_true h1))
      repeat (first | refine g_cnd TrydT_ok Tryd.func8 rfl (fun _ => ?_) (fun h => absurd h (by decide)) | refine g_cnd TrydT_ok Tryd.func8 rfl (fun h => absurd h (by decide)) (fun _ => ?_) | refine g_know TrydT_ok Tryd.func8 rfl (fun _ => ?_) (fun h => absurd h (by decide)) | refine g_know TrydT_ok Tryd.func8 rfl (fun h => absurd h (by decide)) (fun _ => ?_) | refine s_know TrydT_ok (fun _ => ?_) (fun h => absurd h (by decide)) | refine s_know TrydT_ok (fun h => absurd h (by decide)) (fun _ => ?_))
      refine g_ret TrydT_ok (r := bb true) rfl rfl rfl trivial rfl rfl ?_
      rfl
    have h1 : ¬ i < 0 := of_decide_eq_false h1
    first | refine g_cnd TrydT_ok Tryd.func8 rfl (fun h2 => ?_) (fun h2 => ?_) | refine g_know TrydT_ok Tryd.func8 rfl (fun h2 => ?_) (fun h2 => ?_) | refine s_know TrydT_ok (fun h2 => ?_) (fun h2 => ?_)
    · obtain ⟨rfl, rfl, rfl⟩ := out (.inr (.inl (of_decide_eq_true h2)))
      repeat (first | refine g_cnd TrydT_ok Tryd.func8 rfl (fun _ => ?_) (fun h => absurd h (by decide)) | refine g_cnd TrydT_ok Tryd.func8 rfl (fun h => absurd h (by decide)) (fun _ => ?_) | refine g_know TrydT_ok Tryd.func8 rfl (fun _ => ?_) (fun h => absurd h (by decide)) | refine g_know TrydT_ok Tryd.func8 rfl (fun h => absurd h (by decide)) (fun _ => ?_) | refine s_know TrydT_ok (fun _ => ?_) (fun h => absurd h (by decide)) | refine s_know TrydT_ok (fun h => absurd h (by decide)) (fun _ => ?_))
      refine g_ret TrydT_ok (r := bb true) rfl rfl rfl trivial rfl rfl ?_
      rfl
    have h2 : ¬ i ≥ m.moves.length := of_decide_eq_false h2
    first | refine g_cnd TrydT_ok Tryd.func8 rfl (fun h3 => ?_) (fun h3 => ?_) | refine g_know TrydT_ok Tryd.func8 rfl (fun h3 => ?_) (fun h3 => ?_) | refine s_know TrydT_ok (fun h3 => ?_) (fun h3 => ?_)
    · obtain ⟨rfl, rfl, rfl⟩ := out (.inr (.inr (.inl (of_decide_eq_true h3))))
      repeat (first | refine g_cnd TrydT_ok Tryd.func8 rfl (fun _ => ?_) (fun h => absurd h (by decide)) | refine g_cnd TrydT_ok Tryd.func8 rfl (fun h => absurd h (by decide)) (fun _ => ?_) | refine g_know TrydT_ok Tryd.func8 rfl (fun _ => ?_) (fun h => absurd h (by decide)) | refine g_know TrydT_ok Tryd.func8 rfl (fun h => absurd h (by decide)) (fun _ => ?_) | refine s_know TrydT_ok (fun _ => ?_) (fun h => absurd h (by decide)) | refine s_know TrydT_ok (fun h => absurd h (by decide)) (fun _ => ?_))
      refine g_ret TrydT_ok (r := bb true) rfl rfl rfl trivial rfl rfl ?_
      rfl
    have h3 : ¬ j < 0 := of_decide_eq_false h3
    first | refine g_cnd TrydT_ok Tryd.func8 rfl (fun h4 => ?_) (fun h4 => ?_) | refine g_know TrydT_ok Tryd.func8 rfl (fun h4 => ?_) (fun h4 => ?_) | refine s_know TrydT_ok (fun h4 => ?_) (fun h4 => ?_)
    · obtain ⟨rfl, rfl, rfl⟩ := out (.inr (.inr (.inr (of_decide_eq_true h4))))
      repeat (first | refine g_cnd TrydT_ok Tryd.func8 rfl (fun _ => ?_) (fun h => absurd h (by decide)) | refine g_cnd TrydT_ok Tryd.func8 rfl (fun h => absurd h (by decide)) (fun _ => ?_) | refine g_know TrydT_ok Tryd.func8 rfl (fun _ => ?_) (fun h => absurd h (by decide)) | refine g_know TrydT_ok Tryd.func8 rfl (fun h => absurd h (by decide)) (fun _ => ?_) | refine s_know TrydT_ok (fun _ => ?_) (fun h => absurd h (by decide)) | refine s_know TrydT_ok (fun h => absurd h (by decide)) (fun _ => ?_))
      refine g_ret TrydT_ok (r := bb true) rfl rfl rfl trivial rfl rfl ?_
      rfl
    have h4 : ¬ j ≥ m.moves.length := of_decide_eq_false h4
    clear out
    rw [if_neg (by omega)] at hR
    have hi : i.toNat < m.moves.length := by omega
    have hj : j.toNat < m.moves.length := by omega
    have ei : i = ((i.toNat : Nat) : Int) := by omega
    have ej : j = ((j.toNat : Nat) : Int) := by omega
    have h36a := fun O vals hl => h36 O i.toNat vals hi hl
    have h36b := fun O vals hl => h36 O j.toNat vals hj hl
    rw [← ei] at h36a
    rw [← ej] at h36b
    rw [List.getElem?_eq_getElem hi, List.getElem?_eq_getElem hj] at hR
    simp only at hR
    have gx : (m.moves.map mvI)[i.toNat]? = some (mvI m.moves[i.toNat]) := by simp [hi]
    have gy : (m.moves.map mvI)[j.toNat]? = some (mvI m.moves[j.toNat]) := by simp [hj]
    have hbi : 0 ≤ i ∧ i < (m.moves.length : Int) := by omega
    have hbj : 0 ≤ j ∧ j < (m.moves.length : Int) := by omega
    generalize m.moves[i.toNat] = x at *
    generalize m.moves[j.toNat] = y at *
    have conf : (i = j ∨ x.frm ≠ y.frm ∨ x.ev ≠ y.ev) → ol = [] ∧ ob = false ∧ oe = 13 := fun h => by
      rw [if_pos h] at hR
      simp only [Prod.mk.injEq] at hR
      exact hR
    refine g_drawn TrydT_ok Tryd.func8 mixedT rfl ?_
    first | refine g_cnd TrydT_ok Tryd.func8 rfl (fun h5 => ?_) (fun h5 => ?_) | refine g_know TrydT_ok Tryd.func8 rfl (fun h5 => ?_) (fun h5 => ?_) | refine s_know TrydT_ok (fun h5 => ?_) (fun h5 => ?_)
    · obtain ⟨rfl, rfl, rfl⟩ := conf (.inl (beqT h5))
      repeat (first | refine g_cnd TrydT_ok Tryd.func8 rfl (fun _ => ?_) (fun h => absurd h (by decide)) | refine g_cnd TrydT_ok Tryd.func8 rfl (fun h => absurd h (by decide)) (fun _ => ?_) | refine g_know TrydT_ok Tryd.func8 rfl (fun _ => ?_) (fun h => absurd h (by decide)) | refine g_know TrydT_ok Tryd.func8 rfl (fun h => absurd h (by decide)) (fun _ => ?_) | refine s_know TrydT_ok (fun _ => ?_) (fun h => absurd h (by decide)) | refine s_know TrydT_ok (fun h => absurd h (by decide)) (fun _ => ?_))
      refine e_done TrydT_ok Tryd.func8 (by kernel_rfl) ?_
      repeat (first | refine g_cnd TrydT_ok Tryd.func8 rfl (fun _ => ?_) (fun h => absurd h (by decide)) | refine g_cnd TrydT_ok Tryd.func8 rfl (fun h => absurd h (by decide)) (fun _ => ?_) | refine g_know TrydT_ok Tryd.func8 rfl (fun _ => ?_) (fun h => absurd h (by decide)) | refine g_know TrydT_ok Tryd.func8 rfl (fun h => absurd h (by decide)) (fun _ => ?_) | refine s_know TrydT_ok (fun _ => ?_) (fun h => absurd h (by decide)) | refine s_know TrydT_ok (fun h => absurd h (by decide)) (fun _ => ?_))
      refine g_ret TrydT_ok (r := bb true) rfl rfl rfl trivial rfl rfl ?_
      rfl
    have h5 := beqF h5
    first | refine g_need TrydT_ok Tryd.func8 (by exact hbi) ?_ | refine s_need TrydT_ok (by exact hbi) ?_
    first | refine g_elem TrydT_ok Tryd.func8 (gx) ?_ | refine s_elem TrydT_ok (gx) ?_
    first | refine g_need TrydT_ok Tryd.func8 (by exact hbj) ?_ | refine s_need TrydT_ok (by exact hbj) ?_
    first | refine g_elem TrydT_ok Tryd.func8 (gy) ?_ | refine s_elem TrydT_ok (gy) ?_
    first | refine g_cnd TrydT_ok Tryd.func8 rfl (fun h6 => ?_) (fun h6 => ?_) | refine g_know TrydT_ok Tryd.func8 rfl (fun h6 => ?_) (fun h6 => ?_) | refine s_know TrydT_ok (fun h6 => ?_) (fun h6 => ?_)
    · obtain ⟨rfl, rfl, rfl⟩ := conf (.inr (.inl (bneT h6)))
      refine e_done TrydT_ok Tryd.func8 (by kernel_rfl) ?_
      repeat (first | refine g_cnd TrydT_ok Tryd.func8 rfl (fun _ => ?_) (fun h => absurd h (by decide)) | refine g_cnd TrydT_ok Tryd.func8 rfl (fun h => absurd h (by decide)) (fun _ => ?_) | refine g_know TrydT_ok Tryd.func8 rfl (fun _ => ?_) (fun h => absurd h (by decide)) | refine g_know TrydT_ok Tryd.func8 rfl (fun h => absurd h (by decide)) (fun _ => ?_) | refine s_know TrydT_ok (fun _ => ?_) (fun h => absurd h (by decide)) | refine s_know TrydT_ok (fun h => absurd h (by decide)) (fun _ => ?_))
      refine g_ret TrydT_ok (r := bb true) rfl rfl rfl trivial rfl rfl ?_
      rfl
    have h6 := bneF h6
    first | refine g_need TrydT_ok Tryd.func8 (by exact hbi) ?_ | refine s_need TrydT_ok (by exact hbi) ?_
    first | refine g_elem TrydT_ok Tryd.func8 (gx) ?_ | refine s_elem TrydT_ok (gx) ?_
    first | refine g_need TrydT_ok Tryd.func8 (by exact hbj) ?_ | refine s_need TrydT_ok (by exact hbj) ?_
    first | refine g_elem TrydT_ok Tryd.func8 (gy) ?_ | refine s_elem TrydT_ok (gy) ?_
    refine e_done TrydT_ok Tryd.func8 (by kernel_rfl) ?_
    first | refine g_cnd TrydT_ok Tryd.func8 rfl (fun h7 => ?_) (fun h7 => ?_) | refine g_know TrydT_ok Tryd.func8 rfl (fun h7 => ?_) (fun h7 => ?_) | refine s_know TrydT_ok (fun h7 => ?_) (fun h7 => ?_)
    · obtain ⟨rfl, rfl, rfl⟩ := conf (.inr (.inr (bneT h7)))
      repeat (first | refine g_cnd TrydT_ok Tryd.func8 rfl (fun _ => ?_) (fun h => absurd h (by decide)) | refine g_cnd TrydT_ok Tryd.func8 rfl (fun h => absurd h (by decide)) (fun _ => ?_) | refine g_know TrydT_ok Tryd.func8 rfl (fun _ => ?_) (fun h => absurd h (by decide)) | refine g_know TrydT_ok Tryd.func8 rfl (fun h => absurd h (by decide)) (fun _ => ?_) | refine s_know TrydT_ok (fun _ => ?_) (fun h => absurd h (by decide)) | refine s_know TrydT_ok (fun h => absurd h (by decide)) (fun _ => ?_))
      refine g_ret TrydT_ok (r := bb true) rfl rfl rfl trivial rfl rfl ?_
      rfl
    have h7 := bneF h7
    rw [if_neg (by rintro (h | h | h); exact h5 h; exact h h6; exact h h7)] at hR
    clear conf
    refine g_loop ?_
    refine rch_loop2 (fun n : Nat => [(1, ii i), (2, ii j), (7, .own 0 7 0 0), (8, ints ol), (9, bb ob), (10, ii oe), (13, intss A), (19, ii n)]) (fun _ => [(7, .box (extC m))]) (fun _ => O) 212
      (fun n => n ≤ A.length ∧ (ol, ob, oe) = firstR (A.drop n) x.g y.g) (fun n => A.length - n) 0 ⟨Nat.zero_le _, hR⟩ ⟨rfl, rfl, rfl, rfl, rfl, rfl, rfl, rfl, trivial⟩ rfl ⟨rfl, trivial⟩ rfl rfl ?_
    rintro n ⟨hn, hno⟩ ih
    clear hR
    refine g_run TrydT_ok Tryd.func8 ?_
    first | refine g_cnd TrydT_ok Tryd.func8 rfl (fun g1 => ?_) (fun g1 => ?_) | refine g_know TrydT_ok Tryd.func8 rfl (fun g1 => ?_) (fun g1 => ?_) | refine s_know TrydT_ok (fun g1 => ?_) (fun g1 => ?_)
    · have h8 : n < A.length := by simpa using g1
      clear g1
      have hd : A.drop n = A[n] :: A.drop (n + 1) := List.drop_eq_getElem_cons h8
      have hgA : (A.map fun x => [intsI x])[(n : Int).toNat]? = some [intsI A[n]] := get_mapZ (f := fun x => [intsI x]) h8
      have hvl2 := hvals _ (List.getElem_mem h8)
      generalize A[n] = v at *
      have hx := fun O => h36a O v (by simp only [max63]; omega)
      have hy := fun O => h36b O v (by simp only [max63]; omega)
      have step : holdsB x.g v = false ∨ holdsB y.g v = false → (ol, ob, oe) = firstR (A.drop (n + 1)) x.g y.g := by
        intro h
        rw [hno, hd]
        unfold firstR
        rw [List.find?_cons]
        have : (holdsB x.g v && holdsB y.g v) = false := by rcases h with h | h <;> simp [h]
        simp only [this]
      have hit : holdsB x.g v = true → holdsB y.g v = true → ol = v ∧ ob = true ∧ oe = 0 := by
        intro h h'
        rw [hd] at hno
        unfold firstR at hno
        rw [List.find?_cons] at hno
        simp only [h, h', Bool.and_self, Prod.mk.injEq] at hno
        exact hno
      clear hno
      generalize holdsB x.g v = bx at *
      generalize holdsB y.g v = bY at *
      have hvb : 0 ≤ (n : Int) ∧ (n : Int) < (A.length : Int) := by omega
      refine g_drawn TrydT_ok Tryd.func8 mixedT rfl ?_
      first | refine g_need TrydT_ok Tryd.func8 (by exact hvb) ?_ | refine s_need TrydT_ok (by exact hvb) ?_
      first | refine g_elem TrydT_ok Tryd.func8 (hgA) ?_ | refine s_elem TrydT_ok (hgA) ?_
      first | refine g_call TrydT_ok Tryd.func8 (hx _) rfl rfl rfl rfl rfl ?_ | refine s_callq TrydT_ok (fun _ => hx _) rfl rfl rfl ?_
      first | refine g_cnd TrydT_ok Tryd.func8 rfl (fun h9 => ?_) (fun h9 => ?_) | refine g_know TrydT_ok Tryd.func8 rfl (fun h9 => ?_) (fun h9 => ?_) | refine s_know TrydT_ok (fun h9 => ?_) (fun h9 => ?_)
      · first | refine g_need TrydT_ok Tryd.func8 (by exact hvb) ?_ | refine s_need TrydT_ok (by exact hvb) ?_
        first | refine g_elem TrydT_ok Tryd.func8 (hgA) ?_ | refine s_elem TrydT_ok (hgA) ?_
        first | refine g_call TrydT_ok Tryd.func8 (hy _) rfl rfl rfl rfl rfl ?_ | refine s_callq TrydT_ok (fun _ => hy _) rfl rfl rfl ?_
        refine e_done TrydT_ok Tryd.func8 (by kernel_rfl) ?_
        first | refine g_cnd TrydT_ok Tryd.func8 rfl (fun h10 => ?_) (fun h10 => ?_) | refine g_know TrydT_ok Tryd.func8 rfl (fun h10 => ?_) (fun h10 => ?_) | refine s_know TrydT_ok (fun h10 => ?_) (fun h10 => ?_)
        · obtain ⟨rfl, rfl, rfl⟩ := hit h9 h10
          have hw := fun O => wordEqual19 O ol ol (by simp only [max63]; omega)
          first | refine g_need TrydT_ok Tryd.func8 (by exact hvb) ?_ | refine s_need TrydT_ok (by exact hvb) ?_
          first | refine g_elem TrydT_ok Tryd.func8 (hgA) ?_ | refine s_elem TrydT_ok (hgA) ?_
          first | refine g_call TrydT_ok Tryd.func8 (hw _) rfl rfl rfl rfl rfl ?_ | refine s_callq TrydT_ok (fun _ => hw _) rfl rfl rfl ?_
          first | refine g_cnd TrydT_ok Tryd.func8 rfl (fun h11 => ?_) (fun h11 => ?_) | refine g_know TrydT_ok Tryd.func8 rfl (fun h11 => ?_) (fun h11 => ?_) | refine s_know TrydT_ok (fun h11 => ?_) (fun h11 => ?_)
          rotate_left
          · exact absurd h11 (by simp)
          repeat (first | refine g_cnd TrydT_ok Tryd.func8 rfl (fun _ => ?_) (fun h => absurd h (by decide)) | refine g_cnd TrydT_ok Tryd.func8 rfl (fun h => absurd h (by decide)) (fun _ => ?_) | refine g_know TrydT_ok Tryd.func8 rfl (fun _ => ?_) (fun h => absurd h (by decide)) | refine g_know TrydT_ok Tryd.func8 rfl (fun h => absurd h (by decide)) (fun _ => ?_) | refine s_know TrydT_ok (fun _ => ?_) (fun h => absurd h (by decide)) | refine s_know TrydT_ok (fun h => absurd h (by decide)) (fun _ => ?_))
          refine g_ret TrydT_ok (r := bb true) rfl rfl rfl trivial rfl rfl ?_
          rfl
        · refine g_loop ?_
          exact ih (n + 1) _ _ ⟨h8, step (.inr h10)⟩ (by omega) ⟨rfl, rfl, rfl, rfl, rfl, rfl, rfl, congrArg ii (wsucc (n := 16) (by omega) (by decide)), trivial⟩ rfl ⟨rfl, trivial⟩ rfl rfl
      · refine e_done TrydT_ok Tryd.func8 (by kernel_rfl) ?_
        repeat (first | refine g_cnd TrydT_ok Tryd.func8 rfl (fun _ => ?_) (fun h => absurd h (by decide)) | refine g_cnd TrydT_ok Tryd.func8 rfl (fun h => absurd h (by decide)) (fun _ => ?_) | refine g_know TrydT_ok Tryd.func8 rfl (fun _ => ?_) (fun h => absurd h (by decide)) | refine g_know TrydT_ok Tryd.func8 rfl (fun h => absurd h (by decide)) (fun _ => ?_) | refine s_know TrydT_ok (fun _ => ?_) (fun h => absurd h (by decide)) | refine s_know TrydT_ok (fun h => absurd h (by decide)) (fun _ => ?_))
        refine g_loop ?_
        exact ih (n + 1) _ _ ⟨h8, step (.inl h9)⟩ (by omega) ⟨rfl, rfl, rfl, rfl, rfl, rfl, rfl, congrArg ii (wsucc (n := 16) (by omega) (by decide)), trivial⟩ rfl ⟨rfl, trivial⟩ rfl rfl
    · have h8 : A.length ≤ n := by simpa using g1
      rw [List.drop_eq_nil_of_le h8] at hno
      have hno : (ol, ob, oe) = ([], false, 0) := hno
      simp only [Prod.mk.injEq] at hno
      obtain ⟨rfl, rfl, rfl⟩ := hno
      repeat (first | refine g_cnd TrydT_ok Tryd.func8 rfl (fun _ => ?_) (fun h => absurd h (by decide)) | refine g_cnd TrydT_ok Tryd.func8 rfl (fun h => absurd h (by decide)) (fun _ => ?_) | refine g_know TrydT_ok Tryd.func8 rfl (fun _ => ?_) (fun h => absurd h (by decide)) | refine g_know TrydT_ok Tryd.func8 rfl (fun h => absurd h (by decide)) (fun _ => ?_) | refine s_know TrydT_ok (fun _ => ?_) (fun h => absurd h (by decide)) | refine s_know TrydT_ok (fun h => absurd h (by decide)) (fun _ => ?_))
      refine g_ret TrydT_ok (r := bb true) rfl rfl rfl trivial rfl rfl ?_
      rfl
end Go.AI
