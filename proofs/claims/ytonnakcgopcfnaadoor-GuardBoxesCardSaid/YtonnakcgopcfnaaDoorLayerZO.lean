/- The layer of abstract runs, part 41. -/
import Derived.Test.YtonnakcgopcfnaaDoorLayerZN
set_option linter.unusedSimpArgs false
set_option linter.unusedVariables false
set_option linter.all false

/- covered, Boxes, equal lists of boxes. -/
namespace Go.AI
open Go.Proofs
set_option maxRecDepth 20000
/-- What a domain's values are. -/
structure valsB (l : List Vr) (dom : List (List Int)) : Prop where
  vb : ∀ a ∈ l, -65536 ≤ a.low ∧ a.high ≤ 65536
  ll : l.length ≤ 16
  len : dom.length ≤ 4096
  vl : ∀ v ∈ dom, v.length = l.length
  b : ∀ v ∈ dom, ∀ j, -65536 ≤ v.getD j 0 ∧ v.getD j 0 ≤ 65536
theorem neededR_sub : ∀ {all : List (List Int)} {t c : List Bool} {v : List Int}, v ∈ neededR all t c → v ∈ all := fun h => by obtain ⟨i, h1, _⟩ := neededR_mem h; exact List.mem_of_getElem? h1
theorem refusedR_sub : ∀ {all : List (List Int)} {t c : List Bool} {v : List Int}, v ∈ refusedR all t c → v ∈ all := fun h => by obtain ⟨i, h1, _⟩ := refusedR_mem h; exact List.mem_of_getElem? h1
theorem refusedR_len : ∀ (all : List (List Int)) (t c : List Bool), (refusedR all t c).length ≤ all.length
  | [], _, _ => by simp [refusedR]
  | _ :: _, [], _ => by simp [refusedR]
  | _ :: _, _ :: _, [] => by simp [refusedR]
  | d :: ds, t :: ts, c :: cs => by
    have := refusedR_len ds ts cs
    simp only [refusedR, List.length_cons]
    split
    · simp only [List.length_cons]; omega
    · omega
theorem covered71 (O : List Heap) (l : List Vr) (dom : List (List Int)) (t care : List Bool) (hv : valsB l dom) (ht : t.length = dom.length) (hc : care.length = dom.length) : ASpec Tryd.prog 71 [vrs l, intss dom, bools t, bools care] O (bxs (coverR l dom t care)) [] O := by
  have hnl := neededR_len dom t care
  have hrl := refusedR_len dom t care
  have hdl := hv.len
  have hbx := fun O => boxes135 O l dom (neededR dom t care) (refusedR dom t care) hv.ll hv.vb (by omega) (by simp only [max63]; omega) (fun v h => hv.vl v (neededR_sub h)) (fun v h => hv.b v (neededR_sub h)) (fun v h => hv.vl v (refusedR_sub h))
  unfold coverR
  have hN0 : neededR dom t care = [] ++ neededR (dom.drop 0) (t.drop 0) (care.drop 0) := rfl
  have hR0 : refusedR dom t care = [] ++ refusedR (dom.drop 0) (t.drop 0) (care.drop 0) := rfl
  generalize neededR dom t care = N at *
  generalize refusedR dom t care = F at *
  refine aspec_stop [10] TrydT_ok Tryd.func71 rfl Tryd.call71 Tryd.ntmps71 (Nat.le_of_ble_eq_true rfl) fun E => ?_
  refine g_run TrydT_ok Tryd.func71 ?_
  refine g_loop ?_
  refine rch_wk (wk_nilbox2 9 43 53 1 (pre := [vrs l, intss dom]) (post := [.i (.v (.slice none 0 0))]) rfl rfl rfl) ?_
  refine rch_wk (wk_nilbox2 9 26 53 1 (pre := [vrs l, intss dom, .osl 0 43]) (post := []) rfl rfl rfl) ?_
  refine rch_loop2 (fun x : Nat × List (List Int) × List (List Int) => [(2, bools t), (3, bools care), (9, .own 0 9 0 0), (15, intss dom), (16, ii dom.length), (17, ii x.1)]) (fun x => [(9, .box [vrs l, intss dom, .osl 0 43, .osl 0 26]), (43, ointss x.2.1), (26, ointss x.2.2)]) (fun _ => O) 48
    (fun x => x.1 ≤ dom.length ∧ x.2.1.length ≤ x.1 ∧ x.2.2.length ≤ x.1 ∧ N = x.2.1 ++ neededR (dom.drop x.1) (t.drop x.1) (care.drop x.1) ∧ F = x.2.2 ++ refusedR (dom.drop x.1) (t.drop x.1) (care.drop x.1)) (fun x => dom.length - x.1) (0, [], [])
    ⟨Nat.zero_le _, by simp, by simp, hN0, hR0⟩ ⟨rfl, rfl, rfl, rfl, rfl, rfl, trivial⟩ rfl ⟨rfl, rfl, rfl, trivial⟩ rfl rfl ?_
  clear hN0 hR0
  rintro ⟨i, A, B⟩ ⟨hi, hAl, hBl, hA, hB⟩ ih
  simp only at hi hAl hBl hA hB
  refine g_run TrydT_ok Tryd.func71 ?_
  first | refine g_cnd TrydT_ok Tryd.func71 rfl (fun g1 => ?_) (fun g1 => ?_) | refine g_know TrydT_ok Tryd.func71 rfl (fun g1 => ?_) (fun g1 => ?_) | refine s_know TrydT_ok (fun g1 => ?_) (fun g1 => ?_)
  · have h1 : i < dom.length := by simpa using g1
    clear g1
    have gv : (dom.map fun x => [intsI x])[(i : Int).toNat]? = some [intsI dom[i]] := get_mapZ (f := fun x => [intsI x]) h1
    have gl : (t.map fun x => [I.v (.bool x)])[(i : Int).toNat]? = some [I.v (.bool (t[i]'(by omega)))] := get_mapZ (f := fun x => [I.v (.bool x)]) (by omega)
    have gh : (care.map fun x => [I.v (.bool x)])[(i : Int).toNat]? = some [I.v (.bool (care[i]'(by omega)))] := get_mapZ (f := fun x => [I.v (.bool x)]) (by omega)
    have dv : dom.drop i = dom[i] :: dom.drop (i + 1) := List.drop_eq_getElem_cons h1
    have dl : t.drop i = (t[i]'(by omega)) :: t.drop (i + 1) := List.drop_eq_getElem_cons (by omega)
    have dh : care.drop i = (care[i]'(by omega)) :: care.drop (i + 1) := List.drop_eq_getElem_cons (by omega)
    rw [dv, dl, dh] at hA hB
    simp only [neededR, refusedR] at hA hB
    clear dv dl dh
    generalize dom[i] = v at *
    generalize t[i]'(by omega) = a at *
    generalize care[i]'(by omega) = c at *
    have hi1 : ii (IntKind.i64.wrap ((i : Int) + 1)) = ii ((i + 1 : Nat) : Int) := congrArg ii (wsucc (n := 4096) (by omega) (by decide))
    first | refine g_need TrydT_ok Tryd.func71 (by exact ⟨by omega, by show (i : Int) < (dom.length : Int); omega⟩) ?_ | refine s_need TrydT_ok (by exact ⟨by omega, by show (i : Int) < (dom.length : Int); omega⟩) ?_
    first | refine g_elem TrydT_ok Tryd.func71 (gv) ?_ | refine s_elem TrydT_ok (gv) ?_
    first | refine g_need TrydT_ok Tryd.func71 (by exact ⟨by omega, by show (i : Int) < (care.length : Int); omega⟩) ?_ | refine s_need TrydT_ok (by exact ⟨by omega, by show (i : Int) < (care.length : Int); omega⟩) ?_
    first | refine g_elem TrydT_ok Tryd.func71 (gh) ?_ | refine s_elem TrydT_ok (gh) ?_
    cases c with
    | false =>
      repeat (first | refine g_cnd TrydT_ok Tryd.func71 rfl (fun _ => ?_) (fun h => absurd h (by decide)) | refine g_know TrydT_ok Tryd.func71 rfl (fun _ => ?_) (fun h => absurd h (by decide)) | refine s_know TrydT_ok (fun _ => ?_) (fun h => absurd h (by decide)) | refine g_cnd TrydT_ok Tryd.func71 rfl (fun h => absurd h (by decide)) (fun _ => ?_) | refine g_know TrydT_ok Tryd.func71 rfl (fun h => absurd h (by decide)) (fun _ => ?_) | refine s_know TrydT_ok (fun h => absurd h (by decide)) (fun _ => ?_) | refine g_cnd TrydT_ok Tryd.func71 rfl (fun _ => ?_) (fun h => absurd (show true = false from h) (by decide)) | refine g_know TrydT_ok Tryd.func71 rfl (fun _ => ?_) (fun h => absurd (show true = false from h) (by decide)) | refine s_know TrydT_ok (fun _ => ?_) (fun h => absurd (show true = false from h) (by decide)) | refine g_cnd TrydT_ok Tryd.func71 rfl (fun h => absurd (show false = true from h) (by decide)) (fun _ => ?_) | refine g_know TrydT_ok Tryd.func71 rfl (fun h => absurd (show false = true from h) (by decide)) (fun _ => ?_) | refine s_know TrydT_ok (fun h => absurd (show false = true from h) (by decide)) (fun _ => ?_))
      refine g_loop ?_
      exact ih (i + 1, A, B) _ _ ⟨h1, by simp only; omega, by simp only; omega, hA, hB⟩ (by simp only; omega) ⟨rfl, rfl, rfl, rfl, rfl, hi1, trivial⟩ rfl ⟨rfl, rfl, rfl, trivial⟩ rfl rfl
    | true =>
      repeat (first | refine g_cnd TrydT_ok Tryd.func71 rfl (fun _ => ?_) (fun h => absurd h (by decide)) | refine g_know TrydT_ok Tryd.func71 rfl (fun _ => ?_) (fun h => absurd h (by decide)) | refine s_know TrydT_ok (fun _ => ?_) (fun h => absurd h (by decide)) | refine g_cnd TrydT_ok Tryd.func71 rfl (fun h => absurd h (by decide)) (fun _ => ?_) | refine g_know TrydT_ok Tryd.func71 rfl (fun h => absurd h (by decide)) (fun _ => ?_) | refine s_know TrydT_ok (fun h => absurd h (by decide)) (fun _ => ?_) | refine g_cnd TrydT_ok Tryd.func71 rfl (fun _ => ?_) (fun h => absurd (show true = false from h) (by decide)) | refine g_know TrydT_ok Tryd.func71 rfl (fun _ => ?_) (fun h => absurd (show true = false from h) (by decide)) | refine s_know TrydT_ok (fun _ => ?_) (fun h => absurd (show true = false from h) (by decide)) | refine g_cnd TrydT_ok Tryd.func71 rfl (fun h => absurd (show false = true from h) (by decide)) (fun _ => ?_) | refine g_know TrydT_ok Tryd.func71 rfl (fun h => absurd (show false = true from h) (by decide)) (fun _ => ?_) | refine s_know TrydT_ok (fun h => absurd (show false = true from h) (by decide)) (fun _ => ?_))
      first | refine g_need TrydT_ok Tryd.func71 (by exact ⟨by omega, by show (i : Int) < (t.length : Int); omega⟩) ?_ | refine s_need TrydT_ok (by exact ⟨by omega, by show (i : Int) < (t.length : Int); omega⟩) ?_
      first | refine g_elem TrydT_ok Tryd.func71 (gl) ?_ | refine s_elem TrydT_ok (gl) ?_
      cases a with
      | false =>
        repeat (first | refine g_cnd TrydT_ok Tryd.func71 rfl (fun _ => ?_) (fun h => absurd h (by decide)) | refine g_know TrydT_ok Tryd.func71 rfl (fun _ => ?_) (fun h => absurd h (by decide)) | refine s_know TrydT_ok (fun _ => ?_) (fun h => absurd h (by decide)) | refine g_cnd TrydT_ok Tryd.func71 rfl (fun h => absurd h (by decide)) (fun _ => ?_) | refine g_know TrydT_ok Tryd.func71 rfl (fun h => absurd h (by decide)) (fun _ => ?_) | refine s_know TrydT_ok (fun h => absurd h (by decide)) (fun _ => ?_) | refine g_cnd TrydT_ok Tryd.func71 rfl (fun _ => ?_) (fun h => absurd (show true = false from h) (by decide)) | refine g_know TrydT_ok Tryd.func71 rfl (fun _ => ?_) (fun h => absurd (show true = false from h) (by decide)) | refine s_know TrydT_ok (fun _ => ?_) (fun h => absurd (show true = false from h) (by decide)) | refine g_cnd TrydT_ok Tryd.func71 rfl (fun h => absurd (show false = true from h) (by decide)) (fun _ => ?_) | refine g_know TrydT_ok Tryd.func71 rfl (fun h => absurd (show false = true from h) (by decide)) (fun _ => ?_) | refine s_know TrydT_ok (fun h => absurd (show false = true from h) (by decide)) (fun _ => ?_))
        first | refine g_need TrydT_ok Tryd.func71 (by exact ⟨by show (B.length + 1) * 24 ≤ 140737488355328; omega, by show B.length + 1 ≤ 9223372036854775807; omega⟩) ?_ | refine s_need TrydT_ok (by exact ⟨by show (B.length + 1) * 24 ≤ 140737488355328; omega, by show B.length + 1 ≤ 9223372036854775807; omega⟩) ?_
        refine g_loop ?_
        exact ih (i + 1, A, B ++ [v]) _ _ ⟨h1, by simp only; omega, by simp; omega, hA, by simpa using hB⟩ (by simp only; omega) ⟨rfl, rfl, rfl, rfl, rfl, hi1, trivial⟩ rfl ⟨rfl, rfl, congrArg some (ointss_app B v), trivial⟩ rfl rfl
      | true =>
        repeat (first | refine g_cnd TrydT_ok Tryd.func71 rfl (fun _ => ?_) (fun h => absurd h (by decide)) | refine g_know TrydT_ok Tryd.func71 rfl (fun _ => ?_) (fun h => absurd h (by decide)) | refine s_know TrydT_ok (fun _ => ?_) (fun h => absurd h (by decide)) | refine g_cnd TrydT_ok Tryd.func71 rfl (fun h => absurd h (by decide)) (fun _ => ?_) | refine g_know TrydT_ok Tryd.func71 rfl (fun h => absurd h (by decide)) (fun _ => ?_) | refine s_know TrydT_ok (fun h => absurd h (by decide)) (fun _ => ?_) | refine g_cnd TrydT_ok Tryd.func71 rfl (fun _ => ?_) (fun h => absurd (show true = false from h) (by decide)) | refine g_know TrydT_ok Tryd.func71 rfl (fun _ => ?_) (fun h => absurd (show true = false from h) (by decide)) | refine s_know TrydT_ok (fun _ => ?_) (fun h => absurd (show true = false from h) (by decide)) | refine g_cnd TrydT_ok Tryd.func71 rfl (fun h => absurd (show false = true from h) (by decide)) (fun _ => ?_) | refine g_know TrydT_ok Tryd.func71 rfl (fun h => absurd (show false = true from h) (by decide)) (fun _ => ?_) | refine s_know TrydT_ok (fun h => absurd (show false = true from h) (by decide)) (fun _ => ?_))
        first | refine g_need TrydT_ok Tryd.func71 (by exact ⟨by show (A.length + 1) * 24 ≤ 140737488355328; omega, by show A.length + 1 ≤ 9223372036854775807; omega⟩) ?_ | refine s_need TrydT_ok (by exact ⟨by show (A.length + 1) * 24 ≤ 140737488355328; omega, by show A.length + 1 ≤ 9223372036854775807; omega⟩) ?_
        refine g_loop ?_
        exact ih (i + 1, A ++ [v], B) _ _ ⟨h1, by simp; omega, by simp only; omega, by simpa using hA, hB⟩ (by simp only; omega) ⟨rfl, rfl, rfl, rfl, rfl, hi1, trivial⟩ rfl ⟨rfl, congrArg some (ointss_app A v), rfl, trivial⟩ rfl rfl
  · have h1 : dom.length ≤ i := by simpa using g1
    rw [List.drop_eq_nil_of_le h1] at hA hB
    simp only [neededR, refusedR, List.append_nil] at hA hB
    subst hA hB
    refine g_stop ?_
    refine rch_wk (wk_freeze 43 rfl rfl) ?_
    refine rch_wk (wk_freeze 26 rfl rfl) ?_
    refine rch_wk (wk_imm rfl) ?_
    refine g_run TrydT_ok Tryd.func71 ?_
    refine g_go TrydT_ok Tryd.func71 ?_
    first | refine g_call TrydT_ok Tryd.func71 (hbx _) rfl rfl rfl rfl rfl ?_ | refine s_callq TrydT_ok (fun _ => hbx _) rfl rfl rfl ?_
    refine g_ret TrydT_ok (r := bxs _) rfl rfl rfl trivial rfl rfl ?_
    rfl
theorem domOk.vals {l : List Vr} (h : domOk l) : valsB l (allV l) := ⟨fun a ha => (h.b a ha).1, h.len, h.all, fun v hv => allV_mem_len hv, fun v hv => dom_bounds h hv⟩
/-- What variables are that pass All. -/
theorem allG_ok {l : List Vr} (h : (allG l).2 = 0) : domOk l ∧ allG l = (allV l, 0) := by
  unfold allG at h ⊢
  by_cases h1 : varsErr l ≠ 0
  · rw [if_pos h1] at h; exact absurd h h1
  rw [if_neg h1] at h ⊢
  have hv := vars_ok (l := l) (by simpa using h1)
  have hl := vars_len (l := l) (by simpa using h1)
  cases hc : cntR l 1 with
  | none => rw [hc] at h; cases h
  | some d =>
    refine ⟨⟨hl, fun v hm => by have := hv v hm; omega, ?_⟩, rfl⟩
    exact cntR_len (fun v h => by have := hv v h; omega) hc (by decide) (out := [[]]) rfl
def boxesG (l : List Vr) (t care : List Bool) : List Bx × Int :=
  if (allG l).2 ≠ 0 then ([], (allG l).2) else if t.length ≠ (allG l).1.length ∨ care.length ≠ (allG l).1.length then ([], 4) else (coverR l (allG l).1 t care, 0)
theorem boxes19 (O : List Heap) (l : List Vr) (t care : List Bool) (hl : l.length ≤ max63) (hn : ∀ v ∈ l, v.name.size ≤ max63) : ASpec Tryd.prog 19 [vrs l, bools t, bools care] O (.tup [bxs (boxesG l t care).1, ii (boxesG l t care).2]) [] O := by
  have ha := fun O => allG30 O l hl hn
  have hok := @allG_ok l
  generalize hR : boxesG l t care = R
  unfold boxesG at hR
  by_cases he : (allG l).2 ≠ 0
  · rw [if_pos he] at hR
    subst hR
    generalize allG l = A at *
    obtain ⟨dom, e⟩ := A
    simp only at ha he
    refine aspec_intro TrydT_ok Tryd.func19 rfl Tryd.call19 Tryd.ntmps19 (Nat.le_of_ble_eq_true rfl) fun E => ?_
    refine g_run TrydT_ok Tryd.func19 ?_
    first | refine g_call TrydT_ok Tryd.func19 (ha _) rfl rfl rfl rfl rfl ?_ | refine s_callq TrydT_ok (fun _ => ha _) rfl rfl rfl ?_
    first | refine g_cnd TrydT_ok Tryd.func19 rfl (fun h1 => ?_) (fun h1 => ?_) | refine g_know TrydT_ok Tryd.func19 rfl (fun h1 => ?_) (fun h1 => ?_) | refine s_know TrydT_ok (fun h1 => ?_) (fun h1 => ?_)
    rotate_left
    · exact absurd (bneF h1) he
    refine g_ret_co TrydT_ok (r := _) rfl rfl rfl trivial rfl rfl ?_
    repeat' (first | refine coD_tup ?_ | refine coD_agg ?_ | refine coD_i ?_ | refine CoDL.cons ?_ ?_ | exact CoDL.nil | exact coI_nil | refine coI_sl ?_ | refine CoLL.cons ?_ ?_ | exact CoLL.nil | refine CoL.cons ?_ ?_ | exact CoL.nil | exact CoI.refl _ | exact CoL.refl _ | exact CoLL.refl _ | exact CoDL.refl _ | exact CoD.refl _)
  rw [if_neg he] at hR
  obtain ⟨hd, e⟩ := hok (by simpa using he)
  have hv := hd.vals
  rw [e] at ha hR
  simp only at ha hR
  clear hok he e hd
  generalize allV l = dom at *
  have hcov := fun O h1 h2 => covered71 O l dom t care hv h1 h2
  refine aspec_intro TrydT_ok Tryd.func19 rfl Tryd.call19 Tryd.ntmps19 (Nat.le_of_ble_eq_true rfl) fun E => ?_
  refine g_run TrydT_ok Tryd.func19 ?_
  first | refine g_call TrydT_ok Tryd.func19 (ha _) rfl rfl rfl rfl rfl ?_ | refine s_callq TrydT_ok (fun _ => ha _) rfl rfl rfl ?_
  repeat (first | refine g_cnd TrydT_ok Tryd.func19 rfl (fun _ => ?_) (fun h => absurd h (by decide)) | refine g_know TrydT_ok Tryd.func19 rfl (fun _ => ?_) (fun h => absurd h (by decide)) | refine s_know TrydT_ok (fun _ => ?_) (fun h => absurd h (by decide)) | refine g_cnd TrydT_ok Tryd.func19 rfl (fun h => absurd h (by decide)) (fun _ => ?_) | refine g_know TrydT_ok Tryd.func19 rfl (fun h => absurd h (by decide)) (fun _ => ?_) | refine s_know TrydT_ok (fun h => absurd h (by decide)) (fun _ => ?_) | refine g_cnd TrydT_ok Tryd.func19 rfl (fun _ => ?_) (fun h => absurd (show true = false from h) (by decide)) | refine g_know TrydT_ok Tryd.func19 rfl (fun _ => ?_) (fun h => absurd (show true = false from h) (by decide)) | refine s_know TrydT_ok (fun _ => ?_) (fun h => absurd (show true = false from h) (by decide)) | refine g_cnd TrydT_ok Tryd.func19 rfl (fun h => absurd (show false = true from h) (by decide)) (fun _ => ?_) | refine g_know TrydT_ok Tryd.func19 rfl (fun h => absurd (show false = true from h) (by decide)) (fun _ => ?_) | refine s_know TrydT_ok (fun h => absurd (show false = true from h) (by decide)) (fun _ => ?_))
  first | refine g_cnd TrydT_ok Tryd.func19 rfl (fun h1 => ?_) (fun h1 => ?_) | refine g_know TrydT_ok Tryd.func19 rfl (fun h1 => ?_) (fun h1 => ?_) | refine s_know TrydT_ok (fun h1 => ?_) (fun h1 => ?_)
  · have h1 : (t.length : Int) ≠ dom.length := bneT h1
    rw [if_pos (.inl (by omega))] at hR
    subst hR
    repeat (first | refine g_cnd TrydT_ok Tryd.func19 rfl (fun _ => ?_) (fun h => absurd h (by decide)) | refine g_know TrydT_ok Tryd.func19 rfl (fun _ => ?_) (fun h => absurd h (by decide)) | refine s_know TrydT_ok (fun _ => ?_) (fun h => absurd h (by decide)) | refine g_cnd TrydT_ok Tryd.func19 rfl (fun h => absurd h (by decide)) (fun _ => ?_) | refine g_know TrydT_ok Tryd.func19 rfl (fun h => absurd h (by decide)) (fun _ => ?_) | refine s_know TrydT_ok (fun h => absurd h (by decide)) (fun _ => ?_) | refine g_cnd TrydT_ok Tryd.func19 rfl (fun _ => ?_) (fun h => absurd (show true = false from h) (by decide)) | refine g_know TrydT_ok Tryd.func19 rfl (fun _ => ?_) (fun h => absurd (show true = false from h) (by decide)) | refine s_know TrydT_ok (fun _ => ?_) (fun h => absurd (show true = false from h) (by decide)) | refine g_cnd TrydT_ok Tryd.func19 rfl (fun h => absurd (show false = true from h) (by decide)) (fun _ => ?_) | refine g_know TrydT_ok Tryd.func19 rfl (fun h => absurd (show false = true from h) (by decide)) (fun _ => ?_) | refine s_know TrydT_ok (fun h => absurd (show false = true from h) (by decide)) (fun _ => ?_))
    refine g_ret_co TrydT_ok (r := _) rfl rfl rfl trivial rfl rfl ?_
    repeat' (first | refine coD_tup ?_ | refine coD_agg ?_ | refine coD_i ?_ | refine CoDL.cons ?_ ?_ | exact CoDL.nil | exact coI_nil | refine coI_sl ?_ | refine CoLL.cons ?_ ?_ | exact CoLL.nil | refine CoL.cons ?_ ?_ | exact CoL.nil | exact CoI.refl _ | exact CoL.refl _ | exact CoLL.refl _ | exact CoDL.refl _ | exact CoD.refl _)
  have h1 : (t.length : Int) = dom.length := bneF h1
  first | refine g_cnd TrydT_ok Tryd.func19 rfl (fun h2 => ?_) (fun h2 => ?_) | refine g_know TrydT_ok Tryd.func19 rfl (fun h2 => ?_) (fun h2 => ?_) | refine s_know TrydT_ok (fun h2 => ?_) (fun h2 => ?_)
  · have h2 : (care.length : Int) ≠ dom.length := bneT h2
    rw [if_pos (.inr (by omega))] at hR
    subst hR
    refine g_ret_co TrydT_ok (r := _) rfl rfl rfl trivial rfl rfl ?_
    repeat' (first | refine coD_tup ?_ | refine coD_agg ?_ | refine coD_i ?_ | refine CoDL.cons ?_ ?_ | exact CoDL.nil | exact coI_nil | refine coI_sl ?_ | refine CoLL.cons ?_ ?_ | exact CoLL.nil | refine CoL.cons ?_ ?_ | exact CoL.nil | exact CoI.refl _ | exact CoL.refl _ | exact CoLL.refl _ | exact CoDL.refl _ | exact CoD.refl _)
  have h2 : (care.length : Int) = dom.length := bneF h2
  rw [if_neg (by omega)] at hR
  subst hR
  first | refine g_call TrydT_ok Tryd.func19 (hcov _ (by omega) (by omega)) rfl rfl rfl rfl rfl ?_ | refine s_callq TrydT_ok (fun _ => hcov _ (by omega) (by omega)) rfl rfl rfl ?_
  refine g_ret TrydT_ok (r := .tup [bxs _, ii 0]) rfl rfl rfl trivial rfl rfl ?_
  rfl
instance bxDec : DecidableEq Bx := fun a b => decidable_of_iff (a.low = b.low ∧ a.high = b.high) ⟨fun ⟨h1, h2⟩ => by cases a; cases b; cases h1; cases h2; rfl, fun h => by subst h; exact ⟨rfl, rfl⟩⟩
theorem sameBoxes20 (O : List Heap) (a b : List Bx) (ha : a.length ≤ max63) (hv : ∀ x ∈ a, x.low.length ≤ max63 ∧ x.high.length ≤ max63) : ASpec Tryd.prog 20 [bxs a, bxs b] O (bb (decide (a = b))) [] O := by
  refine aspec_intro TrydT_ok Tryd.func20 rfl Tryd.call20 Tryd.ntmps20 (Nat.le_of_ble_eq_true rfl) fun E => ?_
  refine g_run TrydT_ok Tryd.func20 ?_
  first | refine g_cnd TrydT_ok Tryd.func20 rfl (fun h1 => ?_) (fun h1 => ?_) | refine g_know TrydT_ok Tryd.func20 rfl (fun h1 => ?_) (fun h1 => ?_) | refine s_know TrydT_ok (fun h1 => ?_) (fun h1 => ?_)
  · have h1 := bneT h1
    rw [decide_eq_false fun e => h1 (by rw [e])]
    refine g_ret TrydT_ok (r := bb false) rfl rfl rfl trivial rfl rfl ?_
    rfl
  have h1 := bneF h1
  have hlen : a.length = b.length := by
    have : ((a.length : Nat) : Int) = b.length := by simpa using h1
    omega
  refine g_loop ?_
  refine rch_loop2 (fun i : Nat => [(0, bxs a), (1, bxs b), (5, ii i)]) (fun _ => []) (fun _ => O) 43
    (fun i => i ≤ a.length ∧ ∀ (j : Nat) (h : j < a.length), j < i → a[j] = b[j]'(by omega)) (fun i => a.length - i) 0 ⟨Nat.zero_le _, fun j _ h => by omega⟩ ⟨rfl, rfl, rfl, trivial⟩ rfl trivial rfl rfl ?_
  rintro i ⟨hi, hno⟩ ih
  refine g_run TrydT_ok Tryd.func20 ?_
  first | refine g_cnd TrydT_ok Tryd.func20 rfl (fun h2 => ?_) (fun h2 => ?_) | refine g_know TrydT_ok Tryd.func20 rfl (fun h2 => ?_) (fun h2 => ?_) | refine s_know TrydT_ok (fun h2 => ?_) (fun h2 => ?_)
  · have h2 : i < a.length := by simpa using h2
    have ga : (a.map bxI)[(i : Int).toNat]? = some (bxI a[i]) := get_mapZ h2
    have gb : (b.map bxI)[(i : Int).toNat]? = some (bxI (b[i]'(by omega))) := get_mapZ (by omega)
    have hs1 := fun O => sameInts36 O a[i].low (b[i]'(by omega)).low (hv _ (List.getElem_mem h2)).1
    have hs2 := fun O => sameInts36 O a[i].high (b[i]'(by omega)).high (hv _ (List.getElem_mem h2)).2
    have hne : a[i] ≠ b[i]'(by omega) → a ≠ b := fun h e => by subst e; exact h rfl
    have hstep : a[i] = b[i]'(by omega) → ∀ (j : Nat) (h : j < a.length), j < i + 1 → a[j] = b[j]'(by omega) := fun h j hj hji => by
      by_cases e : j = i
      · subst e; exact h
      · exact hno j hj (by omega)
    have hba : 0 ≤ (i : Int) ∧ (i : Int) < (a.length : Int) := by omega
    have hbb : 0 ≤ (i : Int) ∧ (i : Int) < (b.length : Int) := by omega
    generalize a[i] = x at *
    generalize b[i]'(by omega) = y at *
    obtain ⟨xl, xh⟩ := x
    obtain ⟨yl, yh⟩ := y
    simp only [ne_eq, Bx.mk.injEq] at hne hstep hs1 hs2
    refine g_drawn TrydT_ok Tryd.func20 mixedT rfl ?_
    first | refine g_need TrydT_ok Tryd.func20 (by exact hba) ?_ | refine s_need TrydT_ok (by exact hba) ?_
    first | refine g_elem TrydT_ok Tryd.func20 (ga) ?_ | refine s_elem TrydT_ok (ga) ?_
    first | refine g_need TrydT_ok Tryd.func20 (by exact hbb) ?_ | refine s_need TrydT_ok (by exact hbb) ?_
    first | refine g_elem TrydT_ok Tryd.func20 (gb) ?_ | refine s_elem TrydT_ok (gb) ?_
    first | refine g_call TrydT_ok Tryd.func20 (hs1 _) rfl rfl rfl rfl rfl ?_ | refine s_callq TrydT_ok (fun _ => hs1 _) rfl rfl rfl ?_
    by_cases e1 : xl = yl
    · rw [decide_eq_true e1]
      repeat (first | refine g_cnd TrydT_ok Tryd.func20 rfl (fun _ => ?_) (fun h => absurd h (by decide)) | refine g_know TrydT_ok Tryd.func20 rfl (fun _ => ?_) (fun h => absurd h (by decide)) | refine s_know TrydT_ok (fun _ => ?_) (fun h => absurd h (by decide)) | refine g_cnd TrydT_ok Tryd.func20 rfl (fun h => absurd h (by decide)) (fun _ => ?_) | refine g_know TrydT_ok Tryd.func20 rfl (fun h => absurd h (by decide)) (fun _ => ?_) | refine s_know TrydT_ok (fun h => absurd h (by decide)) (fun _ => ?_) | refine g_cnd TrydT_ok Tryd.func20 rfl (fun _ => ?_) (fun h => absurd (show true = false from h) (by decide)) | refine g_know TrydT_ok Tryd.func20 rfl (fun _ => ?_) (fun h => absurd (show true = false from h) (by decide)) | refine s_know TrydT_ok (fun _ => ?_) (fun h => absurd (show true = false from h) (by decide)) | refine g_cnd TrydT_ok Tryd.func20 rfl (fun h => absurd (show false = true from h) (by decide)) (fun _ => ?_) | refine g_know TrydT_ok Tryd.func20 rfl (fun h => absurd (show false = true from h) (by decide)) (fun _ => ?_) | refine s_know TrydT_ok (fun h => absurd (show false = true from h) (by decide)) (fun _ => ?_))
      first | refine g_need TrydT_ok Tryd.func20 (by exact hba) ?_ | refine s_need TrydT_ok (by exact hba) ?_
      first | refine g_elem TrydT_ok Tryd.func20 (ga) ?_ | refine s_elem TrydT_ok (ga) ?_
      first | refine g_need TrydT_ok Tryd.func20 (by exact hbb) ?_ | refine s_need TrydT_ok (by exact hbb) ?_
      first | refine g_elem TrydT_ok Tryd.func20 (gb) ?_ | refine s_elem TrydT_ok (gb) ?_
      first | refine g_call TrydT_ok Tryd.func20 (hs2 _) rfl rfl rfl rfl rfl ?_ | refine s_callq TrydT_ok (fun _ => hs2 _) rfl rfl rfl ?_
      refine e_done TrydT_ok Tryd.func20 (by kernel_rfl) ?_
      first | refine g_cnd TrydT_ok Tryd.func20 rfl (fun h3 => ?_) (fun h3 => ?_) | refine g_know TrydT_ok Tryd.func20 rfl (fun h3 => ?_) (fun h3 => ?_) | refine s_know TrydT_ok (fun h3 => ?_) (fun h3 => ?_)
      · have h3 : xh ≠ yh := by simpa using h3
        rw [decide_eq_false (hne fun h => h3 h.2)]
        refine g_ret TrydT_ok (r := bb false) rfl rfl rfl trivial rfl rfl ?_
        rfl
      · have h3 : xh = yh := by simpa using h3
        refine g_loop ?_
        exact ih (i + 1) _ _ ⟨h2, hstep ⟨e1, h3⟩⟩ (by omega) ⟨rfl, rfl, congrArg ii (wsucc h2 ha), trivial⟩ rfl trivial rfl rfl
    · rw [decide_eq_false e1]
      repeat (first | refine g_cnd TrydT_ok Tryd.func20 rfl (fun _ => ?_) (fun h => absurd h (by decide)) | refine g_know TrydT_ok Tryd.func20 rfl (fun _ => ?_) (fun h => absurd h (by decide)) | refine s_know TrydT_ok (fun _ => ?_) (fun h => absurd h (by decide)) | refine g_cnd TrydT_ok Tryd.func20 rfl (fun h => absurd h (by decide)) (fun _ => ?_) | refine g_know TrydT_ok Tryd.func20 rfl (fun h => absurd h (by decide)) (fun _ => ?_) | refine s_know TrydT_ok (fun h => absurd h (by decide)) (fun _ => ?_) | refine g_cnd TrydT_ok Tryd.func20 rfl (fun _ => ?_) (fun h => absurd (show true = false from h) (by decide)) | refine g_know TrydT_ok Tryd.func20 rfl (fun _ => ?_) (fun h => absurd (show true = false from h) (by decide)) | refine s_know TrydT_ok (fun _ => ?_) (fun h => absurd (show true = false from h) (by decide)) | refine g_cnd TrydT_ok Tryd.func20 rfl (fun h => absurd (show false = true from h) (by decide)) (fun _ => ?_) | refine g_know TrydT_ok Tryd.func20 rfl (fun h => absurd (show false = true from h) (by decide)) (fun _ => ?_) | refine s_know TrydT_ok (fun h => absurd (show false = true from h) (by decide)) (fun _ => ?_))
      refine e_done TrydT_ok Tryd.func20 (by kernel_rfl) ?_
      rw [decide_eq_false (hne fun h => e1 h.1)]
      repeat (first | refine g_cnd TrydT_ok Tryd.func20 rfl (fun _ => ?_) (fun h => absurd h (by decide)) | refine g_know TrydT_ok Tryd.func20 rfl (fun _ => ?_) (fun h => absurd h (by decide)) | refine s_know TrydT_ok (fun _ => ?_) (fun h => absurd h (by decide)) | refine g_cnd TrydT_ok Tryd.func20 rfl (fun h => absurd h (by decide)) (fun _ => ?_) | refine g_know TrydT_ok Tryd.func20 rfl (fun h => absurd h (by decide)) (fun _ => ?_) | refine s_know TrydT_ok (fun h => absurd h (by decide)) (fun _ => ?_) | refine g_cnd TrydT_ok Tryd.func20 rfl (fun _ => ?_) (fun h => absurd (show true = false from h) (by decide)) | refine g_know TrydT_ok Tryd.func20 rfl (fun _ => ?_) (fun h => absurd (show true = false from h) (by decide)) | refine s_know TrydT_ok (fun _ => ?_) (fun h => absurd (show true = false from h) (by decide)) | refine g_cnd TrydT_ok Tryd.func20 rfl (fun h => absurd (show false = true from h) (by decide)) (fun _ => ?_) | refine g_know TrydT_ok Tryd.func20 rfl (fun h => absurd (show false = true from h) (by decide)) (fun _ => ?_) | refine s_know TrydT_ok (fun h => absurd (show false = true from h) (by decide)) (fun _ => ?_))
      refine g_ret TrydT_ok (r := bb false) rfl rfl rfl trivial rfl rfl ?_
      rfl
  · have h2 : a.length ≤ i := by simpa using h2
    have : a = b := List.ext_getElem hlen fun j h h' => hno j h (by omega)
    rw [decide_eq_true this]
    refine g_ret TrydT_ok (r := bb true) rfl rfl rfl trivial rfl rfl ?_
    rfl
end Go.AI


/- Variables of small ranges. -/
namespace Go.AI
set_option maxRecDepth 20000
theorem rngsR_take (l : List (Int × Int)) : rngsR (l.take 3) = rngsR l := by
  unfold rngsR
  rw [List.length_take, show min (min 3 l.length) 3 = min l.length 3 by omega]
  refine List.map_congr_left fun i hi => ?_
  have hi : i < min l.length 3 := List.mem_range.1 hi
  congr 1
  simp only [List.getD_eq_getElem?_getD, List.getElem?_take]
  rw [if_pos (by omega)]
theorem rngs_err3 {l : List (Int × Int)} (h : ∀ p ∈ l, pairOk p) : varsErr (rngsR l) = 0 := by
  rw [← rngsR_take]
  have h' : ∀ p ∈ l.take 3, pairOk p := fun p hp => h p (List.mem_of_mem_take hp)
  have hl : (l.take 3).length ≤ 3 := List.length_take_le _ _
  generalize l.take 3 = l at *
  have hlen : (rngsR l).length ≤ 3 := by rw [rngsR_len]; omega
  unfold varsErr
  rw [if_neg (by omega)]
  have hok := rngsR_ok h'
  have n0 : isNameB (nameR 0) = true := by kernel_rfl
  have n1 : isNameB (nameR 1) = true := by kernel_rfl
  have n2 : isNameB (nameR 2) = true := by kernel_rfl
  have n01 : ((nameR 0).toList == (nameR 1).toList) = false := by kernel_rfl
  have n02 : ((nameR 0).toList == (nameR 2).toList) = false := by kernel_rfl
  have n12 : ((nameR 1).toList == (nameR 2).toList) = false := by kernel_rfl
  match l, hl with
  | [], _ => rfl
  | [a], _ =>
    have e : rngsR [a] = [rngV 0 a] := rfl
    rw [e] at hok ⊢
    simp only [checkVrs]
    rw [checkVr_ok n0 (by simp) (hok _ (by simp))]
  | [a, b], _ =>
    have e : rngsR [a, b] = [rngV 0 a, rngV 1 b] := rfl
    rw [e] at hok ⊢
    simp only [checkVrs]
    rw [checkVr_ok n0 (by simp) (hok _ (by simp))]
    simp only
    rw [checkVr_ok n1 ?_ (hok _ (by simp))]
    simp only [List.take_succ_cons, List.take_zero, List.any_cons, List.any_nil, Bool.or_false]
    exact n01
  | [a, b, c], _ =>
    have e : rngsR [a, b, c] = [rngV 0 a, rngV 1 b, rngV 2 c] := rfl
    rw [e] at hok ⊢
    simp only [checkVrs]
    rw [checkVr_ok n0 (by simp) (hok _ (by simp))]
    simp only
    rw [checkVr_ok n1 ?_ (hok _ (by simp))]
    · simp only
      rw [checkVr_ok n2 ?_ (hok _ (by simp))]
      simp only [List.take_succ_cons, List.take_zero, List.any_cons, List.any_nil, Bool.or_false, Bool.or_eq_false_iff]
      exact ⟨n02, n12⟩
    · simp only [List.take_succ_cons, List.take_zero, List.any_cons, List.any_nil, Bool.or_false]
      exact n01
theorem cntR_some : ∀ {l : List Vr} {c : Int}, (∀ v ∈ l, v.low ≤ v.high ∧ v.high ≤ v.low + 3) → 1 ≤ c → c * (4 ^ l.length : Nat) ≤ 4096 → ∃ d, cntR l c = some d ∧ 1 ≤ d ∧ d ≤ c * (4 ^ l.length : Nat)
  | [], c, _, h1, h => ⟨c, rfl, h1, by simp⟩
  | v :: r, c, hv, h1, h => by
    have hw := hv v (by simp)
    have hwb : 1 ≤ v.w ∧ v.w ≤ 4 := by unfold Vr.w; omega
    have hp : 1 ≤ ((4 ^ r.length : Nat) : Int) := by have := Nat.pow_pos (n := r.length) (show 0 < 4 by decide); omega
    have e : ((4 ^ (v :: r).length : Nat) : Int) = 4 * ((4 ^ r.length : Nat) : Int) := by rw [List.length_cons, Nat.pow_succ]; omega
    have h2 : c * v.w ≤ c * 4 := Int.mul_le_mul_of_nonneg_left hwb.2 (by omega)
    have h3 : 1 ≤ c * v.w := by have := Int.mul_le_mul_of_nonneg_left (c := c) hwb.1 (by omega); rw [Int.mul_one] at this; omega
    rw [e, ← Int.mul_assoc] at h
    have h4 : c * v.w * ((4 ^ r.length : Nat) : Int) ≤ c * 4 * ((4 ^ r.length : Nat) : Int) := Int.mul_le_mul_of_nonneg_right h2 (by omega)
    have h5 : c * v.w ≤ 4096 := by
      have := Int.mul_le_mul_of_nonneg_left (c := c * v.w) hp (by omega)
      rw [Int.mul_one] at this
      omega
    obtain ⟨d, d1, d2, d3⟩ := cntR_some (l := r) (c := c * v.w) (fun w hw => hv w (by simp [hw])) h3 (by omega)
    refine ⟨d, ?_, d2, ?_⟩
    · simp only [cntR]
      rw [if_neg (by omega)]
      exact d1
    · rw [e, ← Int.mul_assoc]; omega
theorem cntR_size : ∀ {l : List Vr} {c d : Int} {out : List (List Int)}, (∀ v ∈ l, v.low ≤ v.high) → cntR l c = some d → (out.length : Int) = c → ((l.foldl allStep out).length : Int) = d
  | [], c, d, out, _, h, ho => by
    simp only [cntR, Option.some.injEq] at h
    simp only [List.foldl_nil]
    omega
  | v :: r, c, d, out, hv, h, ho => by
    simp only [cntR] at h
    split at h
    · cases h
    · simp only [List.foldl_cons]
      refine cntR_size (fun w hw => hv w (by simp [hw])) h ?_
      rw [allStep_len' out v (hv v (by simp)), ho]
/-- The variables that the laws draw. -/
structure small (l : List Vr) : Prop where
  dom : domOk l
  all : allG l = (allV l, 0)
  len : l.length ≤ 3
  pos : 1 ≤ (allV l).length
  most : (allV l).length ≤ 64
  v : ∀ x ∈ l, vrOk x
theorem rngs_small {l : List (Int × Int)} (h : ∀ p ∈ l, pairOk p) : small (rngsR l) := by
  have he := rngs_err3 h
  have hv := rngsR_ok h
  have hlen : (rngsR l).length ≤ 3 := by rw [rngsR_len]; omega
  have hp : (4 ^ (rngsR l).length : Nat) ≤ 64 := Nat.pow_le_pow_right (n := 4) (by decide) hlen
  obtain ⟨d, d1, d2, d3⟩ := cntR_some (l := rngsR l) (c := 1) (fun v hm => (hv v hm).w) (by decide) (by omega)
  have hs := cntR_size (out := [[]]) (fun v hm => (hv v hm).w.1) d1 rfl
  have hs : ((allV (rngsR l)).length : Int) = d := hs
  have ha : allG (rngsR l) = (allV (rngsR l), 0) := by
    unfold allG
    rw [if_neg (by simpa using he), d1]
  obtain ⟨g1, g2⟩ := allG_ok (l := rngsR l) (by rw [ha])
  exact ⟨g1, ha, hlen, by omega, by omega, hv⟩
theorem small.max {l : List Vr} (h : small l) : l.length ≤ max63 ∧ ∀ v ∈ l, v.name.size ≤ max63 :=
  ⟨by have := h.len; simp only [max63]; omega, fun v hv => by rw [(h.v v hv).nm]; decide⟩
end Go.AI


/- The arguments of the statements about guards: data. -/
namespace Go.Proofs.YtonnakcgopcfnaaDoor
open Go.ChangeShapes Go.WideShapes Go.ChangeAt Go.RowKit Go.Deep Go.WideElems
set_option maxRecDepth 100000
section
variable {H : Type} {enc : TypeId × Value → H} {W : World}
theorem okWide_sl {P : Program} {W : World} {r : Reach} {b0 : Nat} {t e : TypeId} {v : Value} (ht : P.underlying t = some (.slice e)) (h : Value.okWide P W r b0 t v) : v.cells.toList = [v] := by
  simp only [Value.okWide, ht, Cell.okWide] at h
  cases v <;> simp_all [Cell.ok, Value.cells]
theorem open_pairs {r : Reach} {b0 : Nat} {v : Value} {d : DataW H} {p : List MemPlace} (hv : Value.okWide Tryd.prog W r b0 22 v) (h : DataW.Trod enc Tryd.prog W 0 (fun _ => true) true 22 v d p) :
    ∃ l : List (Int × Int), (l.length ≤ AI.max63 ∧ ∀ x ∈ l, AI.pairOk x) ∧ ∀ ρ sh, AI.RepD (KW W) ρ sh v (AI.r8s l) := by
  obtain ⟨n, hn⟩ := h
  obtain ⟨is, hr, l, rfl, h1, h2⟩ := opn_pairs n _ _ hn
  rw [okWide_sl Tryd.underlying22 hv] at hr
  cases hr with
  | cons a b => exact ⟨l, ⟨h2, h1⟩, fun ρ sh => .i a⟩
theorem open_u64 {r : Reach} {b0 : Nat} {v : Value} {d : DataW H} {p : List MemPlace} (hv : Value.okWide Tryd.prog W r b0 23 v) (h : DataW.Trod enc Tryd.prog W 0 (fun _ => true) true 23 v d p) :
    ∃ n : Int, 0 ≤ n ∧ ∀ ρ sh, AI.RepD (KW W) ρ sh v (AI.u64D n) := by
  obtain ⟨x, rfl, _, _, hw⟩ := open_int Tryd.underlying23 hv h
  simp only [Lit.wf, Bool.and_eq_true, decide_eq_true_eq] at hw
  have e1 : IntKind.u64.min = 0 := rfl
  rw [e1] at hw
  exact ⟨x, hw.1, fun ρ sh => .i (.v rfl)⟩
end
end Go.Proofs.YtonnakcgopcfnaaDoor


/- Boxes checked; the literals of a box. -/
namespace Go.AI
open Go.Proofs
set_option maxRecDepth 20000
def chkV : List Vr → List Int → List Int → Int
  | v :: r, lo :: ls, hi :: hs => if lo < v.low ∨ hi > v.high ∨ lo > hi then 2 else chkV r ls hs
  | _, _, _ => 0
def chkBx (l : List Vr) (b : Bx) : Int := if b.low.length ≠ l.length ∨ b.high.length ≠ l.length then 4 else chkV l b.low b.high
def chkBs (l : List Vr) : List Bx → Int
  | [] => 0
  | b :: r => if chkBx l b ≠ 0 then chkBx l b else chkBs l r
def checkBoxesR (l : List Vr) (boxes : List Bx) : Int := if (allG l).2 ≠ 0 then (allG l).2 else chkBs l boxes
set_option maxHeartbeats 4000000 in
theorem checkBoxes89 (O : List Heap) (l : List Vr) (boxes : List Bx) (hl : l.length ≤ max63) (hn : ∀ v ∈ l, v.name.size ≤ max63) (hbl : boxes.length ≤ max63) : ASpec Tryd.prog 89 [vrs l, bxs boxes] O (ii (checkBoxesR l boxes)) [] O := by
  have ha := fun O => allG30 O l hl hn
  have hgok := @allG_ok l
  generalize hR : checkBoxesR l boxes = R
  unfold checkBoxesR at hR
  generalize allG l = A at *
  obtain ⟨dom, e⟩ := A
  simp only at ha hR hgok
  refine aspec_intro TrydT_ok Tryd.func89 rfl Tryd.call89 Tryd.ntmps89 (Nat.le_of_ble_eq_true rfl) fun E => ?_
  refine g_run TrydT_ok Tryd.func89 ?_
  first | refine g_call TrydT_ok Tryd.func89 (ha _) rfl rfl rfl rfl rfl ?_ | refine s_callq TrydT_ok (fun _ => ha _) rfl rfl rfl ?_
  first | refine g_cnd TrydT_ok Tryd.func89 rfl (fun h1 => ?_) (fun h1 => ?_) | refine g_know TrydT_ok Tryd.func89 rfl (fun h1 => ?_) (fun h1 => ?_) | refine s_know TrydT_ok (fun h1 => ?_) (fun h1 => ?_)
  · have h1 := bneT h1
    rw [if_pos h1] at hR
    subst hR
    refine g_ret TrydT_ok (r := ii e) rfl rfl rfl trivial rfl rfl ?_
    rfl
  have h1 := bneF h1
  rw [if_neg (by simpa using h1)] at hR
  have hd := (hgok h1).1
  have hl16 := hd.len
  clear hgok h1 ha
  refine g_loop ?_
  refine rch_loop2 (fun i : Nat => [(0, vrs l), (19, bxs boxes), (20, ii boxes.length), (21, ii i)]) (fun _ => []) (fun _ => O) 79
    (fun i => i ≤ boxes.length ∧ chkBs l (boxes.drop i) = R) (fun i => boxes.length - i) 0 ⟨Nat.zero_le _, hR⟩ ⟨rfl, rfl, rfl, rfl, trivial⟩ rfl trivial rfl rfl ?_
  clear hR
  rintro i ⟨hi, hno⟩ ih
  refine g_run TrydT_ok Tryd.func89 ?_
  first | refine g_cnd TrydT_ok Tryd.func89 rfl (fun g1 => ?_) (fun g1 => ?_) | refine g_know TrydT_ok Tryd.func89 rfl (fun g1 => ?_) (fun g1 => ?_) | refine s_know TrydT_ok (fun g1 => ?_) (fun g1 => ?_)
  · have h1 : i < boxes.length := by simpa using g1
    clear g1
    have gb : (boxes.map bxI)[(i : Int).toNat]? = some (bxI boxes[i]) := get_mapZ h1
    have db : boxes.drop i = boxes[i] :: boxes.drop (i + 1) := List.drop_eq_getElem_cons h1
    rw [db] at hno
    simp only [chkBs] at hno
    clear db
    generalize boxes[i] = b at *
    obtain ⟨lo, hi2⟩ := b
    have e4 : (lo.length ≠ l.length ∨ hi2.length ≠ l.length) → chkBx l ⟨lo, hi2⟩ = 4 := fun h => if_pos h
    have e0 : ¬ (lo.length ≠ l.length ∨ hi2.length ≠ l.length) → chkBx l ⟨lo, hi2⟩ = chkV l lo hi2 := fun h => if_neg h
    generalize chkBx l ⟨lo, hi2⟩ = K at *
    first | refine g_need TrydT_ok Tryd.func89 (by exact ⟨by omega, by show (i : Int) < (boxes.length : Int); omega⟩) ?_ | refine s_need TrydT_ok (by exact ⟨by omega, by show (i : Int) < (boxes.length : Int); omega⟩) ?_
    first | refine g_elem TrydT_ok Tryd.func89 (gb) ?_ | refine s_elem TrydT_ok (gb) ?_
    first | refine g_cnd TrydT_ok Tryd.func89 rfl (fun h2 => ?_) (fun h2 => ?_) | refine g_know TrydT_ok Tryd.func89 rfl (fun h2 => ?_) (fun h2 => ?_) | refine s_know TrydT_ok (fun h2 => ?_) (fun h2 => ?_)
    · have h2 : (lo.length : Int) ≠ l.length := bneT h2
      have e := e4 (.inl (by omega))
      rw [e, if_pos (by decide)] at hno
      subst hno
      repeat (first | refine g_cnd TrydT_ok Tryd.func89 rfl (fun _ => ?_) (fun h => absurd h (by decide)) | refine g_know TrydT_ok Tryd.func89 rfl (fun _ => ?_) (fun h => absurd h (by decide)) | refine s_know TrydT_ok (fun _ => ?_) (fun h => absurd h (by decide)) | refine g_cnd TrydT_ok Tryd.func89 rfl (fun h => absurd h (by decide)) (fun _ => ?_) | refine g_know TrydT_ok Tryd.func89 rfl (fun h => absurd h (by decide)) (fun _ => ?_) | refine s_know TrydT_ok (fun h => absurd h (by decide)) (fun _ => ?_) | refine g_cnd TrydT_ok Tryd.func89 rfl (fun _ => ?_) (fun h => absurd (show true = false from h) (by decide)) | refine g_know TrydT_ok Tryd.func89 rfl (fun _ => ?_) (fun h => absurd (show true = false from h) (by decide)) | refine s_know TrydT_ok (fun _ => ?_) (fun h => absurd (show true = false from h) (by decide)) | refine g_cnd TrydT_ok Tryd.func89 rfl (fun h => absurd (show false = true from h) (by decide)) (fun _ => ?_) | refine g_know TrydT_ok Tryd.func89 rfl (fun h => absurd (show false = true from h) (by decide)) (fun _ => ?_) | refine s_know TrydT_ok (fun h => absurd (show false = true from h) (by decide)) (fun _ => ?_))
      refine g_ret TrydT_ok (r := ii 4) rfl rfl rfl trivial rfl rfl ?_
      rfl
    have h2 : (lo.length : Int) = l.length := bneF h2
    first | refine g_cnd TrydT_ok Tryd.func89 rfl (fun h3 => ?_) (fun h3 => ?_) | refine g_know TrydT_ok Tryd.func89 rfl (fun h3 => ?_) (fun h3 => ?_) | refine s_know TrydT_ok (fun h3 => ?_) (fun h3 => ?_)
    · have h3 : (hi2.length : Int) ≠ l.length := bneT h3
      have e := e4 (.inr (by omega))
      rw [e, if_pos (by decide)] at hno
      subst hno
      refine g_ret TrydT_ok (r := ii 4) rfl rfl rfl trivial rfl rfl ?_
      rfl
    have h3 : (hi2.length : Int) = l.length := bneF h3
    have e := e0 (by omega)
    rw [e] at hno
    clear e e0 e4
    have hc0 : chkV l lo hi2 = chkV (l.drop 0) (lo.drop 0) (hi2.drop 0) := rfl
    generalize chkV l lo hi2 = C at *
    refine g_loop ?_
    refine rch_loop2 (fun j : Nat => [(0, vrs l), (8, .own 0 8 0 0), (19, bxs boxes), (20, ii boxes.length), (21, ii i), (39, vrs l), (40, ii l.length), (41, ii j)]) (fun _ => [(8, .box [ints lo, ints hi2])]) (fun _ => O) 79
      (fun j => j ≤ l.length ∧ C = chkV (l.drop j) (lo.drop j) (hi2.drop j)) (fun j => l.length - j) 0 ⟨Nat.zero_le _, hc0⟩ ⟨rfl, rfl, rfl, rfl, rfl, rfl, rfl, rfl, trivial⟩ rfl ⟨rfl, trivial⟩ rfl rfl ?_
    clear hc0
    rintro j ⟨hj, hcj⟩ ih2
    refine g_run TrydT_ok Tryd.func89 ?_
    first | refine g_cnd TrydT_ok Tryd.func89 rfl (fun g2 => ?_) (fun g2 => ?_) | refine g_know TrydT_ok Tryd.func89 rfl (fun g2 => ?_) (fun g2 => ?_) | refine s_know TrydT_ok (fun g2 => ?_) (fun g2 => ?_)
    · have h4 : j < l.length := by simpa using g2
      clear g2
      have gv : (l.map vrI)[(j : Int).toNat]? = some (vrI l[j]) := get_mapZ h4
      have gl : (lo.map fun x => [vi x])[(j : Int).toNat]? = some [vi (lo[j]'(by omega))] := get_mapZ (f := fun x => [vi x]) (by omega)
      have gh : (hi2.map fun x => [vi x])[(j : Int).toNat]? = some [vi (hi2[j]'(by omega))] := get_mapZ (f := fun x => [vi x]) (by omega)
      have dv : l.drop j = l[j] :: l.drop (j + 1) := List.drop_eq_getElem_cons h4
      have dl : lo.drop j = (lo[j]'(by omega)) :: lo.drop (j + 1) := List.drop_eq_getElem_cons (by omega)
      have dh : hi2.drop j = (hi2[j]'(by omega)) :: hi2.drop (j + 1) := List.drop_eq_getElem_cons (by omega)
      rw [dv, dl, dh] at hcj
      simp only [chkV] at hcj
      clear dv dl dh
      generalize l[j] = v at *
      generalize lo[j]'(by omega) = a at *
      generalize hi2[j]'(by omega) = c at *
      have hbl : 0 ≤ (j : Int) ∧ (j : Int) < (lo.length : Int) := by omega
      have hbh : 0 ≤ (j : Int) ∧ (j : Int) < (hi2.length : Int) := by omega
      have bad : (a < v.low ∨ c > v.high ∨ a > c) → R = 2 := fun h => by rw [← hno, hcj, if_pos h, if_pos (by decide)]
      have good : ¬ (a < v.low ∨ c > v.high ∨ a > c) → C = chkV (l.drop (j + 1)) (lo.drop (j + 1)) (hi2.drop (j + 1)) := fun h => by rw [hcj, if_neg h]
      clear hcj
      first | refine g_need TrydT_ok Tryd.func89 (by exact ⟨by omega, by show (j : Int) < (l.length : Int); omega⟩) ?_ | refine s_need TrydT_ok (by exact ⟨by omega, by show (j : Int) < (l.length : Int); omega⟩) ?_
      first | refine g_elem TrydT_ok Tryd.func89 (gv) ?_ | refine s_elem TrydT_ok (gv) ?_
      refine g_drawn TrydT_ok Tryd.func89 mixedT rfl ?_
      first | refine g_need TrydT_ok Tryd.func89 (by exact hbl) ?_ | refine s_need TrydT_ok (by exact hbl) ?_
      first | refine g_elem TrydT_ok Tryd.func89 (gl) ?_ | refine s_elem TrydT_ok (gl) ?_
      first | refine g_cnd TrydT_ok Tryd.func89 rfl (fun h5 => ?_) (fun h5 => ?_) | refine g_know TrydT_ok Tryd.func89 rfl (fun h5 => ?_) (fun h5 => ?_) | refine s_know TrydT_ok (fun h5 => ?_) (fun h5 => ?_)
      · have h5 : a < v.low := of_decide_eq_true h5
        have := bad (.inl h5)
        subst this
        repeat (first | refine g_cnd TrydT_ok Tryd.func89 rfl (fun _ => ?_) (fun h => absurd h (by decide)) | refine g_know TrydT_ok Tryd.func89 rfl (fun _ => ?_) (fun h => absurd h (by decide)) | refine s_know TrydT_ok (fun _ => ?_) (fun h => absurd h (by decide)) | refine g_cnd TrydT_ok Tryd.func89 rfl (fun h => absurd h (by decide)) (fun _ => ?_) | refine g_know TrydT_ok Tryd.func89 rfl (fun h => absurd h (by decide)) (fun _ => ?_) | refine s_know TrydT_ok (fun h => absurd h (by decide)) (fun _ => ?_) | refine g_cnd TrydT_ok Tryd.func89 rfl (fun _ => ?_) (fun h => absurd (show true = false from h) (by decide)) | refine g_know TrydT_ok Tryd.func89 rfl (fun _ => ?_) (fun h => absurd (show true = false from h) (by decide)) | refine s_know TrydT_ok (fun _ => ?_) (fun h => absurd (show true = false from h) (by decide)) | refine g_cnd TrydT_ok Tryd.func89 rfl (fun h => absurd (show false = true from h) (by decide)) (fun _ => ?_) | refine g_know TrydT_ok Tryd.func89 rfl (fun h => absurd (show false = true from h) (by decide)) (fun _ => ?_) | refine s_know TrydT_ok (fun h => absurd (show false = true from h) (by decide)) (fun _ => ?_))
        refine e_done TrydT_ok Tryd.func89 (by kernel_rfl) ?_
        repeat (first | refine g_cnd TrydT_ok Tryd.func89 rfl (fun _ => ?_) (fun h => absurd h (by decide)) | refine g_know TrydT_ok Tryd.func89 rfl (fun _ => ?_) (fun h => absurd h (by decide)) | refine s_know TrydT_ok (fun _ => ?_) (fun h => absurd h (by decide)) | refine g_cnd TrydT_ok Tryd.func89 rfl (fun h => absurd h (by decide)) (fun _ => ?_) | refine g_know TrydT_ok Tryd.func89 rfl (fun h => absurd h (by decide)) (fun _ => ?_) | refine s_know TrydT_ok (fun h => absurd h (by decide)) (fun _ => ?_) | refine g_cnd TrydT_ok Tryd.func89 rfl (fun _ => ?_) (fun h => absurd (show true = false from h) (by decide)) | refine g_know TrydT_ok Tryd.func89 rfl (fun _ => ?_) (fun h => absurd (show true = false from h) (by decide)) | refine s_know TrydT_ok (fun _ => ?_) (fun h => absurd (show true = false from h) (by decide)) | refine g_cnd TrydT_ok Tryd.func89 rfl (fun h => absurd (show false = true from h) (by decide)) (fun _ => ?_) | refine g_know TrydT_ok Tryd.func89 rfl (fun h => absurd (show false = true from h) (by decide)) (fun _ => ?_) | refine s_know TrydT_ok (fun h => absurd (show false = true from h) (by decide)) (fun _ => ?_))
        refine g_ret TrydT_ok (r := ii 2) rfl rfl rfl trivial rfl rfl ?_
        rfl
      have h5 : ¬ a < v.low := of_decide_eq_false h5
      first | refine g_need TrydT_ok Tryd.func89 (by exact hbh) ?_ | refine s_need TrydT_ok (by exact hbh) ?_
      first | refine g_elem TrydT_ok Tryd.func89 (gh) ?_ | refine s_elem TrydT_ok (gh) ?_
      first | refine g_cnd TrydT_ok Tryd.func89 rfl (fun h6 => ?_) (fun h6 => ?_) | refine g_know TrydT_ok Tryd.func89 rfl (fun h6 => ?_) (fun h6 => ?_) | refine s_know TrydT_ok (fun h6 => ?_) (fun h6 => ?_)
      · have h6 : v.high < c := of_decide_eq_true h6
        have := bad (.inr (.inl h6))
        subst this
        repeat (first | refine g_cnd TrydT_ok Tryd.func89 rfl (fun _ => ?_) (fun h => absurd h (by decide)) | refine g_know TrydT_ok Tryd.func89 rfl (fun _ => ?_) (fun h => absurd h (by decide)) | refine s_know TrydT_ok (fun _ => ?_) (fun h => absurd h (by decide)) | refine g_cnd TrydT_ok Tryd.func89 rfl (fun h => absurd h (by decide)) (fun _ => ?_) | refine g_know TrydT_ok Tryd.func89 rfl (fun h => absurd h (by decide)) (fun _ => ?_) | refine s_know TrydT_ok (fun h => absurd h (by decide)) (fun _ => ?_) | refine g_cnd TrydT_ok Tryd.func89 rfl (fun _ => ?_) (fun h => absurd (show true = false from h) (by decide)) | refine g_know TrydT_ok Tryd.func89 rfl (fun _ => ?_) (fun h => absurd (show true = false from h) (by decide)) | refine s_know TrydT_ok (fun _ => ?_) (fun h => absurd (show true = false from h) (by decide)) | refine g_cnd TrydT_ok Tryd.func89 rfl (fun h => absurd (show false = true from h) (by decide)) (fun _ => ?_) | refine g_know TrydT_ok Tryd.func89 rfl (fun h => absurd (show false = true from h) (by decide)) (fun _ => ?_) | refine s_know TrydT_ok (fun h => absurd (show false = true from h) (by decide)) (fun _ => ?_))
        refine e_done TrydT_ok Tryd.func89 (by kernel_rfl) ?_
        repeat (first | refine g_cnd TrydT_ok Tryd.func89 rfl (fun _ => ?_) (fun h => absurd h (by decide)) | refine g_know TrydT_ok Tryd.func89 rfl (fun _ => ?_) (fun h => absurd h (by decide)) | refine s_know TrydT_ok (fun _ => ?_) (fun h => absurd h (by decide)) | refine g_cnd TrydT_ok Tryd.func89 rfl (fun h => absurd h (by decide)) (fun _ => ?_) | refine g_know TrydT_ok Tryd.func89 rfl (fun h => absurd h (by decide)) (fun _ => ?_) | refine s_know TrydT_ok (fun h => absurd h (by decide)) (fun _ => ?_) | refine g_cnd TrydT_ok Tryd.func89 rfl (fun _ => ?_) (fun h => absurd (show true = false from h) (by decide)) | refine g_know TrydT_ok Tryd.func89 rfl (fun _ => ?_) (fun h => absurd (show true = false from h) (by decide)) | refine s_know TrydT_ok (fun _ => ?_) (fun h => absurd (show true = false from h) (by decide)) | refine g_cnd TrydT_ok Tryd.func89 rfl (fun h => absurd (show false = true from h) (by decide)) (fun _ => ?_) | refine g_know TrydT_ok Tryd.func89 rfl (fun h => absurd (show false = true from h) (by decide)) (fun _ => ?_) | refine s_know TrydT_ok (fun h => absurd (show false = true from h) (by decide)) (fun _ => ?_))
        refine g_ret TrydT_ok (r := ii 2) rfl rfl rfl trivial rfl rfl ?_
        rfl
      have h6 : ¬ v.high < c := of_decide_eq_false h6
      first | refine g_need TrydT_ok Tryd.func89 (by exact hbl) ?_ | refine s_need TrydT_ok (by exact hbl) ?_
      first | refine g_elem TrydT_ok Tryd.func89 (gl) ?_ | refine s_elem TrydT_ok (gl) ?_
      first | refine g_need TrydT_ok Tryd.func89 (by exact hbh) ?_ | refine s_need TrydT_ok (by exact hbh) ?_
      first | refine g_elem TrydT_ok Tryd.func89 (gh) ?_ | refine s_elem TrydT_ok (gh) ?_
      refine e_done TrydT_ok Tryd.func89 (by kernel_rfl) ?_
      first | refine g_cnd TrydT_ok Tryd.func89 rfl (fun h7 => ?_) (fun h7 => ?_) | refine g_know TrydT_ok Tryd.func89 rfl (fun h7 => ?_) (fun h7 => ?_) | refine s_know TrydT_ok (fun h7 => ?_) (fun h7 => ?_)
      · have h7 : c < a := of_decide_eq_true h7
        have := bad (.inr (.inr h7))
        subst this
        refine g_ret TrydT_ok (r := ii 2) rfl rfl rfl trivial rfl rfl ?_
        rfl
      have h7 : ¬ c < a := of_decide_eq_false h7
      refine g_loop ?_
      exact ih2 (j + 1) _ _ ⟨h4, good (by omega)⟩ (by omega) ⟨rfl, rfl, rfl, rfl, rfl, rfl, rfl, congrArg ii (wsucc (n := 16) (by omega) (by decide)), trivial⟩ rfl ⟨rfl, trivial⟩ rfl rfl
    · have h4 : l.length ≤ j := by simpa using g2
      rw [List.drop_eq_nil_of_le h4] at hcj
      simp only [chkV] at hcj
      rw [hcj, if_neg (by decide)] at hno
      refine g_loop ?_
      exact ih (i + 1) _ _ ⟨h1, hno⟩ (by omega) ⟨rfl, rfl, rfl, congrArg ii (wsucc h1 hbl), trivial⟩ rfl trivial rfl rfl
  · have h1 : boxes.length ≤ i := by simpa using g1
    rw [List.drop_eq_nil_of_le h1] at hno
    simp only [chkBs] at hno
    subst hno
    refine g_ret TrydT_ok (r := ii 0) rfl rfl rfl trivial rfl rfl ?_
    rfl
abbrev litI (x : Lit) : List I := [vi (x.var : Int), vi x.lo, vi x.hi, .v (.bool x.fr), .v (.bool x.to)]
abbrev litD (x : Lit) : D := .agg [ii (x.var : Int), ii x.lo, ii x.hi, bb x.fr, bb x.to]
abbrev litsD (l : List Lit) : D := .i (.sl 5 l.length (l.map litI))
abbrev olits (l : List Lit) : Ob := .arr 176 5 l.length (l.map litI) true
theorem olits_app (l : List Lit) (x : Lit) : Ob.arr 176 5 (l.length + 1) (l.map litI ++ [litI x]) true = olits (l ++ [x]) := by simp
set_option maxHeartbeats 4000000 in
theorem literals91 (O : List Heap) (l : List Vr) (b : Bx) (h1 : b.low.length = l.length) (h2 : b.high.length = l.length) (hl16 : l.length ≤ 16) : ASpec Tryd.prog 91 [bxD b, vrs l] O (litsD (b.lits l)) [] O := by
  obtain ⟨lo, hi⟩ := b
  simp only at h1 h2
  unfold Bx.lits
  simp only
  generalize hR : litsR l 0 lo hi = R
  have hR0 : [] ++ litsR (l.drop 0) 0 (lo.drop 0) (hi.drop 0) = R := hR
  clear hR
  refine aspec_stop [7] TrydT_ok Tryd.func91 rfl Tryd.call91 Tryd.ntmps91 (Nat.le_of_ble_eq_true rfl) fun E => ?_
  refine g_run TrydT_ok Tryd.func91 ?_
  refine g_loop ?_
  refine rch_wk (wk_nil 5 106 176 5 rfl rfl rfl) ?_
  refine rch_loop2 (fun x : Nat × List Lit => [(2, .own 0 2 0 0), (5, .osl 0 106), (8, vrs l), (9, ii l.length), (10, ii x.1)]) (fun x => [(2, .box [ints lo, ints hi]), (106, olits x.2)]) (fun _ => O) 109
    (fun x => x.1 ≤ l.length ∧ x.2.length ≤ 2 * x.1 ∧ x.2 ++ litsR (l.drop x.1) x.1 (lo.drop x.1) (hi.drop x.1) = R) (fun x => l.length - x.1) (0, []) ⟨Nat.zero_le _, by simp, hR0⟩ ⟨rfl, rfl, rfl, rfl, rfl, trivial⟩ rfl ⟨rfl, rfl, trivial⟩ rfl rfl ?_
  clear hR0
  rintro ⟨i, acc⟩ ⟨hi', hal, hno⟩ ih
  simp only at hi' hal hno
  refine g_run TrydT_ok Tryd.func91 ?_
  first | refine g_cnd TrydT_ok Tryd.func91 rfl (fun g1 => ?_) (fun g1 => ?_) | refine g_know TrydT_ok Tryd.func91 rfl (fun g1 => ?_) (fun g1 => ?_) | refine s_know TrydT_ok (fun g1 => ?_) (fun g1 => ?_)
  · have h3 : i < l.length := by simpa using g1
    clear g1
    have gv : (l.map vrI)[(i : Int).toNat]? = some (vrI l[i]) := get_mapZ h3
    have gl : (lo.map fun x => [vi x])[(i : Int).toNat]? = some [vi (lo[i]'(by omega))] := get_mapZ (f := fun x => [vi x]) (by omega)
    have gh : (hi.map fun x => [vi x])[(i : Int).toNat]? = some [vi (hi[i]'(by omega))] := get_mapZ (f := fun x => [vi x]) (by omega)
    have dv : l.drop i = l[i] :: l.drop (i + 1) := List.drop_eq_getElem_cons h3
    have dl : lo.drop i = (lo[i]'(by omega)) :: lo.drop (i + 1) := List.drop_eq_getElem_cons (by omega)
    have dh : hi.drop i = (hi[i]'(by omega)) :: hi.drop (i + 1) := List.drop_eq_getElem_cons (by omega)
    rw [dv, dl, dh] at hno
    simp only [litsR, litsV] at hno
    clear dv dl dh
    generalize l[i] = v at *
    generalize lo[i]'(by omega) = a at *
    generalize hi[i]'(by omega) = c at *
    have hbl : 0 ≤ (i : Int) ∧ (i : Int) < (lo.length : Int) := by omega
    have hbh : 0 ≤ (i : Int) ∧ (i : Int) < (hi.length : Int) := by omega
    have hi1 : ii (IntKind.i64.wrap ((i : Int) + 1)) = ii ((i + 1 : Nat) : Int) := congrArg ii (wsucc (n := 16) (by omega) (by decide))
    have hsz : (acc.length + 1) * 32 ≤ 140737488355328 ∧ acc.length + 1 ≤ 9223372036854775807 := by omega
    have app1 : ∀ (x : Lit) (r : List Lit), acc ++ ([x] ++ r) = acc ++ [x] ++ r := fun x r => by simp
    generalize hrest : litsR (l.drop (i + 1)) (i + 1) (lo.drop (i + 1)) (hi.drop (i + 1)) = rest at hno
    first | refine g_need TrydT_ok Tryd.func91 (by exact ⟨by omega, by show (i : Int) < (l.length : Int); omega⟩) ?_ | refine s_need TrydT_ok (by exact ⟨by omega, by show (i : Int) < (l.length : Int); omega⟩) ?_
    first | refine g_elem TrydT_ok Tryd.func91 (gv) ?_ | refine s_elem TrydT_ok (gv) ?_
    refine g_drawn TrydT_ok Tryd.func91 mixedT rfl ?_
    first | refine g_need TrydT_ok Tryd.func91 (by exact hbl) ?_ | refine s_need TrydT_ok (by exact hbl) ?_
    first | refine g_elem TrydT_ok Tryd.func91 (gl) ?_ | refine s_elem TrydT_ok (gl) ?_
    have fin0 : ∀ (acc' : List Lit), acc' ++ rest = R → acc'.length ≤ 2 * (i + 1) → (i + 1 ≤ l.length ∧ acc'.length ≤ 2 * (i + 1) ∧ acc' ++ litsR (l.drop (i + 1)) (i + 1) (lo.drop (i + 1)) (hi.drop (i + 1)) = R) := fun acc' h1 h2 => ⟨h3, h2, by rw [hrest]; exact h1⟩
    obtain ⟨vn, vl, vh, vj⟩ := v
    simp only at hno
    apply join_q (P := fun A : List Lit => A = acc ++ (if a ≠ vl then [Lit.mk i a c true false] else []) ∧ ¬ (a = vl ∧ c = vh) ∧ a ≠ c) (s6 := fun A => { σ := [(2, .own 0 2 0 0), (5, .osl 0 106), (6, ii i), (7, .own 0 7 0 0), (8, vrs l), (9, ii l.length), (10, ii i)], S := [(2, .box [ints lo, ints hi]), (7, .box [.i (strI vn), ii vl, ii vh, ii vj]), (106, olits A)] :: O, n := 109 })
    · intro J
      first | refine g_cnd TrydT_ok Tryd.func91 rfl (fun c1 => ?_) (fun c1 => ?_) | refine g_know TrydT_ok Tryd.func91 rfl (fun c1 => ?_) (fun c1 => ?_) | refine s_know TrydT_ok (fun c1 => ?_) (fun c1 => ?_)
      · have c1 : a = vl := beqT c1
        first | refine g_need TrydT_ok Tryd.func91 (by exact hbh) ?_ | refine s_need TrydT_ok (by exact hbh) ?_
        first | refine g_elem TrydT_ok Tryd.func91 (gh) ?_ | refine s_elem TrydT_ok (gh) ?_
        refine e_done TrydT_ok Tryd.func91 (by kernel_rfl) ?_
        first | refine g_cnd TrydT_ok Tryd.func91 rfl (fun c2 => ?_) (fun c2 => ?_) | refine g_know TrydT_ok Tryd.func91 rfl (fun c2 => ?_) (fun c2 => ?_) | refine s_know TrydT_ok (fun c2 => ?_) (fun c2 => ?_)
        · have c2 : c = vh := beqT c2
          rw [if_pos ⟨c1, c2⟩] at hno
          refine g_loop ?_
          exact ih (i + 1, acc) _ _ (fin0 acc hno (by omega)) (by simp only; omega) ⟨rfl, rfl, rfl, rfl, hi1, trivial⟩ rfl ⟨rfl, rfl, trivial⟩ rfl rfl
        have c2 : c ≠ vh := beqF c2
        rw [if_neg (fun h => c2 h.2)] at hno
        refine g_drawn TrydT_ok Tryd.func91 mixedT rfl ?_
        first | refine g_need TrydT_ok Tryd.func91 (by exact hbl) ?_ | refine s_need TrydT_ok (by exact hbl) ?_
        first | refine g_elem TrydT_ok Tryd.func91 (gl) ?_ | refine s_elem TrydT_ok (gl) ?_
        first | refine g_need TrydT_ok Tryd.func91 (by exact hbh) ?_ | refine s_need TrydT_ok (by exact hbh) ?_
        first | refine g_elem TrydT_ok Tryd.func91 (gh) ?_ | refine s_elem TrydT_ok (gh) ?_
        refine e_done TrydT_ok Tryd.func91 (by kernel_rfl) ?_
        first | refine g_cnd TrydT_ok Tryd.func91 rfl (fun c3 => ?_) (fun c3 => ?_) | refine g_know TrydT_ok Tryd.func91 rfl (fun c3 => ?_) (fun c3 => ?_) | refine s_know TrydT_ok (fun c3 => ?_) (fun c3 => ?_)
        · have c3 : a = c := beqT c3
          rw [if_pos c3, app1] at hno
          refine g_drawn TrydT_ok Tryd.func91 mixedT rfl ?_
          first | refine g_need TrydT_ok Tryd.func91 (by exact hbl) ?_ | refine s_need TrydT_ok (by exact hbl) ?_
          first | refine g_elem TrydT_ok Tryd.func91 (gl) ?_ | refine s_elem TrydT_ok (gl) ?_
          first | refine g_need TrydT_ok Tryd.func91 (by exact hbh) ?_ | refine s_need TrydT_ok (by exact hbh) ?_
          first | refine g_elem TrydT_ok Tryd.func91 (gh) ?_ | refine s_elem TrydT_ok (gh) ?_
          refine e_tail TrydT_ok Tryd.func91 ([14, 15]) (by kernel_rfl) (by kernel_rfl) ?_
          first | refine g_need TrydT_ok Tryd.func91 (by exact hsz) ?_ | refine s_need TrydT_ok (by exact hsz) ?_
          refine g_loop ?_
          exact ih (i + 1, acc ++ [Lit.mk i a c true true]) _ _ (fin0 _ hno (by simp; omega)) (by simp only; omega) ⟨rfl, rfl, rfl, rfl, hi1, trivial⟩ rfl ⟨rfl, congrArg some (olits_app acc (Lit.mk i a c true true)), trivial⟩ rfl rfl
        have c3 : a ≠ c := beqF c3
        refine g_drawn TrydT_ok Tryd.func91 mixedT rfl ?_
        first | refine g_need TrydT_ok Tryd.func91 (by exact hbl) ?_ | refine s_need TrydT_ok (by exact hbl) ?_
        first | refine g_elem TrydT_ok Tryd.func91 (gl) ?_ | refine s_elem TrydT_ok (gl) ?_
        refine e_done TrydT_ok Tryd.func91 (by kernel_rfl) ?_
        first | refine g_cnd TrydT_ok Tryd.func91 rfl (fun c4 => ?_) (fun c4 => ?_) | refine g_know TrydT_ok Tryd.func91 rfl (fun c4 => ?_) (fun c4 => ?_) | refine s_know TrydT_ok (fun c4 => ?_) (fun c4 => ?_)
        · exact absurd c1 (bneT c4)
        refine g_stop ?_
        refine rch_meet (J acc ⟨by rw [if_neg (by simpa using c1)]; simp, fun h => c2 h.2, c3⟩) ⟨rfl, rfl, rfl, rfl, rfl, rfl, rfl, trivial⟩ rfl ⟨rfl, rfl, rfl, trivial⟩ rfl rfl
      have c1 : a ≠ vl := beqF c1
      rw [if_neg (fun h => c1 h.1)] at hno
      repeat (first | refine g_cnd TrydT_ok Tryd.func91 rfl (fun _ => ?_) (fun h => absurd h (by decide)) | refine g_know TrydT_ok Tryd.func91 rfl (fun _ => ?_) (fun h => absurd h (by decide)) | refine s_know TrydT_ok (fun _ => ?_) (fun h => absurd h (by decide)) | refine g_cnd TrydT_ok Tryd.func91 rfl (fun h => absurd h (by decide)) (fun _ => ?_) | refine g_know TrydT_ok Tryd.func91 rfl (fun h => absurd h (by decide)) (fun _ => ?_) | refine s_know TrydT_ok (fun h => absurd h (by decide)) (fun _ => ?_) | refine g_cnd TrydT_ok Tryd.func91 rfl (fun _ => ?_) (fun h => absurd (show true = false from h) (by decide)) | refine g_know TrydT_ok Tryd.func91 rfl (fun _ => ?_) (fun h => absurd (show true = false from h) (by decide)) | refine s_know TrydT_ok (fun _ => ?_) (fun h => absurd (show true = false from h) (by decide)) | refine g_cnd TrydT_ok Tryd.func91 rfl (fun h => absurd (show false = true from h) (by decide)) (fun _ => ?_) | refine g_know TrydT_ok Tryd.func91 rfl (fun h => absurd (show false = true from h) (by decide)) (fun _ => ?_) | refine s_know TrydT_ok (fun h => absurd (show false = true from h) (by decide)) (fun _ => ?_))
      refine e_done TrydT_ok Tryd.func91 (by kernel_rfl) ?_
      repeat (first | refine g_cnd TrydT_ok Tryd.func91 rfl (fun _ => ?_) (fun h => absurd h (by decide)) | refine g_know TrydT_ok Tryd.func91 rfl (fun _ => ?_) (fun h => absurd h (by decide)) | refine s_know TrydT_ok (fun _ => ?_) (fun h => absurd h (by decide)) | refine g_cnd TrydT_ok Tryd.func91 rfl (fun h => absurd h (by decide)) (fun _ => ?_) | refine g_know TrydT_ok Tryd.func91 rfl (fun h => absurd h (by decide)) (fun _ => ?_) | refine s_know TrydT_ok (fun h => absurd h (by decide)) (fun _ => ?_) | refine g_cnd TrydT_ok Tryd.func91 rfl (fun _ => ?_) (fun h => absurd (show true = false from h) (by decide)) | refine g_know TrydT_ok Tryd.func91 rfl (fun _ => ?_) (fun h => absurd (show true = false from h) (by decide)) | refine s_know TrydT_ok (fun _ => ?_) (fun h => absurd (show true = false from h) (by decide)) | refine g_cnd TrydT_ok Tryd.func91 rfl (fun h => absurd (show false = true from h) (by decide)) (fun _ => ?_) | refine g_know TrydT_ok Tryd.func91 rfl (fun h => absurd (show false = true from h) (by decide)) (fun _ => ?_) | refine s_know TrydT_ok (fun h => absurd (show false = true from h) (by decide)) (fun _ => ?_))
      refine g_drawn TrydT_ok Tryd.func91 mixedT rfl ?_
      first | refine g_need TrydT_ok Tryd.func91 (by exact hbl) ?_ | refine s_need TrydT_ok (by exact hbl) ?_
      first | refine g_elem TrydT_ok Tryd.func91 (gl) ?_ | refine s_elem TrydT_ok (gl) ?_
      first | refine g_need TrydT_ok Tryd.func91 (by exact hbh) ?_ | refine s_need TrydT_ok (by exact hbh) ?_
      first | refine g_elem TrydT_ok Tryd.func91 (gh) ?_ | refine s_elem TrydT_ok (gh) ?_
      refine e_done TrydT_ok Tryd.func91 (by kernel_rfl) ?_
      first | refine g_cnd TrydT_ok Tryd.func91 rfl (fun c3 => ?_) (fun c3 => ?_) | refine g_know TrydT_ok Tryd.func91 rfl (fun c3 => ?_) (fun c3 => ?_) | refine s_know TrydT_ok (fun c3 => ?_) (fun c3 => ?_)
      · have c3 : a = c := beqT c3
        rw [if_pos c3, app1] at hno
        refine g_drawn TrydT_ok Tryd.func91 mixedT rfl ?_
        first | refine g_need TrydT_ok Tryd.func91 (by exact hbl) ?_ | refine s_need TrydT_ok (by exact hbl) ?_
        first | refine g_elem TrydT_ok Tryd.func91 (gl) ?_ | refine s_elem TrydT_ok (gl) ?_
        first | refine g_need TrydT_ok Tryd.func91 (by exact hbh) ?_ | refine s_need TrydT_ok (by exact hbh) ?_
        first | refine g_elem TrydT_ok Tryd.func91 (gh) ?_ | refine s_elem TrydT_ok (gh) ?_
        refine e_tail TrydT_ok Tryd.func91 ([14, 15]) (by kernel_rfl) (by kernel_rfl) ?_
        first | refine g_need TrydT_ok Tryd.func91 (by exact hsz) ?_ | refine s_need TrydT_ok (by exact hsz) ?_
        refine g_loop ?_
        exact ih (i + 1, acc ++ [Lit.mk i a c true true]) _ _ (fin0 _ hno (by simp; omega)) (by simp only; omega) ⟨rfl, rfl, rfl, rfl, hi1, trivial⟩ rfl ⟨rfl, congrArg some (olits_app acc (Lit.mk i a c true true)), trivial⟩ rfl rfl
      have c3 : a ≠ c := beqF c3
      refine g_drawn TrydT_ok Tryd.func91 mixedT rfl ?_
      first | refine g_need TrydT_ok Tryd.func91 (by exact hbl) ?_ | refine s_need TrydT_ok (by exact hbl) ?_
      first | refine g_elem TrydT_ok Tryd.func91 (gl) ?_ | refine s_elem TrydT_ok (gl) ?_
      refine e_done TrydT_ok Tryd.func91 (by kernel_rfl) ?_
      first | refine g_cnd TrydT_ok Tryd.func91 rfl (fun c4 => ?_) (fun c4 => ?_) | refine g_know TrydT_ok Tryd.func91 rfl (fun c4 => ?_) (fun c4 => ?_) | refine s_know TrydT_ok (fun c4 => ?_) (fun c4 => ?_)
      rotate_left
      · exact absurd (bneF c4) c1
      refine g_drawn TrydT_ok Tryd.func91 mixedT rfl ?_
      first | refine g_need TrydT_ok Tryd.func91 (by exact hbl) ?_ | refine s_need TrydT_ok (by exact hbl) ?_
      first | refine g_elem TrydT_ok Tryd.func91 (gl) ?_ | refine s_elem TrydT_ok (gl) ?_
      first | refine g_need TrydT_ok Tryd.func91 (by exact hbh) ?_ | refine s_need TrydT_ok (by exact hbh) ?_
      first | refine g_elem TrydT_ok Tryd.func91 (gh) ?_ | refine s_elem TrydT_ok (gh) ?_
      refine e_tail TrydT_ok Tryd.func91 ([14, 15]) (by kernel_rfl) (by kernel_rfl) ?_
      first | refine g_need TrydT_ok Tryd.func91 (by exact hsz) ?_ | refine s_need TrydT_ok (by exact hsz) ?_
      refine g_stop ?_
      refine rch_wk (wk_ren 37 106 rfl rfl rfl) ?_
      refine rch_meet (J (acc ++ [Lit.mk i a c true false]) ⟨by rw [if_pos c1], fun h => c1 h.1, c3⟩) ⟨rfl, rfl, rfl, rfl, rfl, rfl, rfl, trivial⟩ rfl ⟨rfl, rfl, congrArg some (olits_app acc (Lit.mk i a c true false)), trivial⟩ rfl rfl
    · rintro A ⟨hA, d1, d2⟩
      rw [if_neg d1, if_neg d2, ← List.append_assoc, ← List.append_assoc, ← hA] at hno
      have hAl : A.length ≤ 2 * i + 1 := by
        rw [hA, List.length_append]
        split <;> simp <;> omega
      have hsz2 : (A.length + 1) * 32 ≤ 140737488355328 ∧ A.length + 1 ≤ 9223372036854775807 := by omega
      refine g_run TrydT_ok Tryd.func91 ?_
      refine g_go TrydT_ok Tryd.func91 ?_
      refine g_drawn TrydT_ok Tryd.func91 mixedT rfl ?_
      first | refine g_need TrydT_ok Tryd.func91 (by exact hbh) ?_ | refine s_need TrydT_ok (by exact hbh) ?_
      first | refine g_elem TrydT_ok Tryd.func91 (gh) ?_ | refine s_elem TrydT_ok (gh) ?_
      refine e_done TrydT_ok Tryd.func91 (by kernel_rfl) ?_
      first | refine g_cnd TrydT_ok Tryd.func91 rfl (fun c5 => ?_) (fun c5 => ?_) | refine g_know TrydT_ok Tryd.func91 rfl (fun c5 => ?_) (fun c5 => ?_) | refine s_know TrydT_ok (fun c5 => ?_) (fun c5 => ?_)
      · have c5 : c ≠ vh := bneT c5
        rw [if_pos c5] at hno
        refine g_drawn TrydT_ok Tryd.func91 mixedT rfl ?_
        first | refine g_need TrydT_ok Tryd.func91 (by exact hbl) ?_ | refine s_need TrydT_ok (by exact hbl) ?_
        first | refine g_elem TrydT_ok Tryd.func91 (gl) ?_ | refine s_elem TrydT_ok (gl) ?_
        first | refine g_need TrydT_ok Tryd.func91 (by exact hbh) ?_ | refine s_need TrydT_ok (by exact hbh) ?_
        first | refine g_elem TrydT_ok Tryd.func91 (gh) ?_ | refine s_elem TrydT_ok (gh) ?_
        refine e_tail TrydT_ok Tryd.func91 ([14, 15]) (by kernel_rfl) (by kernel_rfl) ?_
        first | refine g_need TrydT_ok Tryd.func91 (by exact hsz2) ?_ | refine s_need TrydT_ok (by exact hsz2) ?_
        refine g_loop ?_
        refine rch_wk (wk_ren 60 106 rfl rfl rfl) ?_
        exact ih (i + 1, A ++ [Lit.mk i a c false true]) _ _ (fin0 _ hno (by simp; omega)) (by simp only; omega) ⟨rfl, rfl, rfl, rfl, hi1, trivial⟩ rfl ⟨rfl, congrArg some (olits_app A (Lit.mk i a c false true)), trivial⟩ rfl rfl
      have c5 : c = vh := bneF c5
      rw [if_neg (by simpa using c5), List.append_nil] at hno
      refine g_loop ?_
      exact ih (i + 1, A) _ _ (fin0 A hno (by omega)) (by simp only; omega) ⟨rfl, rfl, rfl, rfl, hi1, trivial⟩ rfl ⟨rfl, rfl, trivial⟩ rfl rfl
  · have h3 : l.length ≤ i := by simpa using g1
    rw [List.drop_eq_nil_of_le h3] at hno
    simp only [litsR, List.append_nil] at hno
    subst hno
    refine g_rwk (wk_freeze 106 rfl rfl) ?_
    refine g_rwk (wk_imm rfl) ?_
    refine g_ret TrydT_ok (r := litsD acc) rfl rfl rfl trivial rfl rfl ?_
    rfl
end Go.AI


/- Expressions of literals, joins. -/
namespace Go.AI
open Go.Proofs
set_option maxRecDepth 20000
theorem false77 (O : List Heap) : ASpec Tryd.prog 77 [] O (exA falseE) [] O := by
  refine aspec_intro TrydT_ok Tryd.func77 rfl Tryd.call77 Tryd.ntmps77 (Nat.le_of_ble_eq_true rfl) fun E => ?_
  refine g_run TrydT_ok Tryd.func77 ?_
  refine g_ret_co TrydT_ok (r := _) rfl rfl rfl trivial rfl rfl ?_
  show CoD _ (.agg [ii 7, ii 0, ii 0, .i (.sl 4 2 [[vi 0, vi 0, vi 0, .sl 4 0 []], [vi 0, vi 0, vi 0, .sl 4 0 []]])])
  repeat' (first | refine coD_tup ?_ | refine coD_agg ?_ | refine coD_i ?_ | refine CoDL.cons ?_ ?_ | exact CoDL.nil | exact coI_nil | refine coI_sl ?_ | refine CoLL.cons ?_ ?_ | exact CoLL.nil | refine CoL.cons ?_ ?_ | exact CoL.nil | exact CoI.refl _ | exact CoL.refl _ | exact CoLL.refl _ | exact CoDL.refl _ | exact CoD.refl _)
theorem expr172 (O : List Heap) (n : Int) : ASpec Tryd.prog 172 [ii n] O (exA (constE n)) [] O := by
  refine aspec_intro TrydT_ok Tryd.func172 rfl Tryd.call172 Tryd.ntmps172 (Nat.le_of_ble_eq_true rfl) fun E => ?_
  refine g_run TrydT_ok Tryd.func172 ?_
  refine g_ret_co TrydT_ok (r := _) rfl rfl rfl trivial rfl rfl ?_
  show CoD _ (.agg [ii 0, ii n, ii 0, .i (.sl 4 0 [])])
  repeat' (first | refine coD_tup ?_ | refine coD_agg ?_ | refine coD_i ?_ | refine CoDL.cons ?_ ?_ | exact CoDL.nil | exact coI_nil | refine coI_sl ?_ | refine CoLL.cons ?_ ?_ | exact CoLL.nil | refine CoL.cons ?_ ?_ | exact CoL.nil | exact CoI.refl _ | exact CoL.refl _ | exact CoLL.refl _ | exact CoDL.refl _ | exact CoD.refl _)
theorem litExpr139 (O : List Heap) (x : Lit) : ASpec Tryd.prog 139 [litD x] O (exA (litX x)) [] O := by
  obtain ⟨v, lo, hi, fr, to⟩ := x
  cases fr with
  | true =>
    cases to with
    | true =>
      refine aspec_intro TrydT_ok Tryd.func139 rfl Tryd.call139 Tryd.ntmps139 (Nat.le_of_ble_eq_true rfl) fun E => ?_
      refine g_run TrydT_ok Tryd.func139 ?_
      repeat (first | refine g_cnd TrydT_ok Tryd.func139 rfl (fun _ => ?_) (fun h => absurd h (by decide)) | refine g_know TrydT_ok Tryd.func139 rfl (fun _ => ?_) (fun h => absurd h (by decide)) | refine s_know TrydT_ok (fun _ => ?_) (fun h => absurd h (by decide)) | refine g_cnd TrydT_ok Tryd.func139 rfl (fun h => absurd h (by decide)) (fun _ => ?_) | refine g_know TrydT_ok Tryd.func139 rfl (fun h => absurd h (by decide)) (fun _ => ?_) | refine s_know TrydT_ok (fun h => absurd h (by decide)) (fun _ => ?_) | refine g_cnd TrydT_ok Tryd.func139 rfl (fun _ => ?_) (fun h => absurd (show true = false from h) (by decide)) | refine g_know TrydT_ok Tryd.func139 rfl (fun _ => ?_) (fun h => absurd (show true = false from h) (by decide)) | refine s_know TrydT_ok (fun _ => ?_) (fun h => absurd (show true = false from h) (by decide)) | refine g_cnd TrydT_ok Tryd.func139 rfl (fun h => absurd (show false = true from h) (by decide)) (fun _ => ?_) | refine g_know TrydT_ok Tryd.func139 rfl (fun h => absurd (show false = true from h) (by decide)) (fun _ => ?_) | refine s_know TrydT_ok (fun h => absurd (show false = true from h) (by decide)) (fun _ => ?_))
      refine g_drawn TrydT_ok Tryd.func139 mixedT rfl ?_
      first | refine g_call TrydT_ok Tryd.func139 (expr172 _ lo) rfl rfl rfl rfl rfl ?_ | refine s_callq TrydT_ok (fun _ => expr172 _ lo) rfl rfl rfl ?_
      refine s_put TrydT_ok rfl rfl rfl ?_
      refine e_done TrydT_ok Tryd.func139 (by kernel_rfl) ?_
      refine g_ret_co TrydT_ok (r := _) rfl rfl rfl trivial rfl rfl ?_
      show CoD _ (.agg [ii 6, ii 0, ii 0, .i (.sl 4 2 [[vi 1, vi 0, vi (v : Int), .sl 4 0 []], [vi 0, vi lo, vi 0, .sl 4 0 []]])])
      repeat' (first | refine coD_tup ?_ | refine coD_agg ?_ | refine coD_i ?_ | refine CoDL.cons ?_ ?_ | exact CoDL.nil | exact coI_nil | refine coI_sl ?_ | refine CoLL.cons ?_ ?_ | exact CoLL.nil | refine CoL.cons ?_ ?_ | exact CoL.nil | exact CoI.refl _ | exact CoL.refl _ | exact CoLL.refl _ | exact CoDL.refl _ | exact CoD.refl _)
    | false =>
      refine aspec_intro TrydT_ok Tryd.func139 rfl Tryd.call139 Tryd.ntmps139 (Nat.le_of_ble_eq_true rfl) fun E => ?_
      refine g_run TrydT_ok Tryd.func139 ?_
      repeat (first | refine g_cnd TrydT_ok Tryd.func139 rfl (fun _ => ?_) (fun h => absurd h (by decide)) | refine g_know TrydT_ok Tryd.func139 rfl (fun _ => ?_) (fun h => absurd h (by decide)) | refine s_know TrydT_ok (fun _ => ?_) (fun h => absurd h (by decide)) | refine g_cnd TrydT_ok Tryd.func139 rfl (fun h => absurd h (by decide)) (fun _ => ?_) | refine g_know TrydT_ok Tryd.func139 rfl (fun h => absurd h (by decide)) (fun _ => ?_) | refine s_know TrydT_ok (fun h => absurd h (by decide)) (fun _ => ?_) | refine g_cnd TrydT_ok Tryd.func139 rfl (fun _ => ?_) (fun h => absurd (show true = false from h) (by decide)) | refine g_know TrydT_ok Tryd.func139 rfl (fun _ => ?_) (fun h => absurd (show true = false from h) (by decide)) | refine s_know TrydT_ok (fun _ => ?_) (fun h => absurd (show true = false from h) (by decide)) | refine g_cnd TrydT_ok Tryd.func139 rfl (fun h => absurd (show false = true from h) (by decide)) (fun _ => ?_) | refine g_know TrydT_ok Tryd.func139 rfl (fun h => absurd (show false = true from h) (by decide)) (fun _ => ?_) | refine s_know TrydT_ok (fun h => absurd (show false = true from h) (by decide)) (fun _ => ?_))
      refine g_drawn TrydT_ok Tryd.func139 mixedT rfl ?_
      first | refine g_call TrydT_ok Tryd.func139 (expr172 _ lo) rfl rfl rfl rfl rfl ?_ | refine s_callq TrydT_ok (fun _ => expr172 _ lo) rfl rfl rfl ?_
      refine s_put TrydT_ok rfl rfl rfl ?_
      refine e_done TrydT_ok Tryd.func139 (by kernel_rfl) ?_
      refine g_ret_co TrydT_ok (r := _) rfl rfl rfl trivial rfl rfl ?_
      show CoD _ (.agg [ii 9, ii 0, ii 0, .i (.sl 4 2 [[vi 0, vi lo, vi 0, .sl 4 0 []], [vi 1, vi 0, vi (v : Int), .sl 4 0 []]])])
      repeat' (first | refine coD_tup ?_ | refine coD_agg ?_ | refine coD_i ?_ | refine CoDL.cons ?_ ?_ | exact CoDL.nil | exact coI_nil | refine coI_sl ?_ | refine CoLL.cons ?_ ?_ | exact CoLL.nil | refine CoL.cons ?_ ?_ | exact CoL.nil | exact CoI.refl _ | exact CoL.refl _ | exact CoLL.refl _ | exact CoDL.refl _ | exact CoD.refl _)
  | false =>
    refine aspec_intro TrydT_ok Tryd.func139 rfl Tryd.call139 Tryd.ntmps139 (Nat.le_of_ble_eq_true rfl) fun E => ?_
    refine g_run TrydT_ok Tryd.func139 ?_
    repeat (first | refine g_cnd TrydT_ok Tryd.func139 rfl (fun _ => ?_) (fun h => absurd h (by decide)) | refine g_know TrydT_ok Tryd.func139 rfl (fun _ => ?_) (fun h => absurd h (by decide)) | refine s_know TrydT_ok (fun _ => ?_) (fun h => absurd h (by decide)) | refine g_cnd TrydT_ok Tryd.func139 rfl (fun h => absurd h (by decide)) (fun _ => ?_) | refine g_know TrydT_ok Tryd.func139 rfl (fun h => absurd h (by decide)) (fun _ => ?_) | refine s_know TrydT_ok (fun h => absurd h (by decide)) (fun _ => ?_) | refine g_cnd TrydT_ok Tryd.func139 rfl (fun _ => ?_) (fun h => absurd (show true = false from h) (by decide)) | refine g_know TrydT_ok Tryd.func139 rfl (fun _ => ?_) (fun h => absurd (show true = false from h) (by decide)) | refine s_know TrydT_ok (fun _ => ?_) (fun h => absurd (show true = false from h) (by decide)) | refine g_cnd TrydT_ok Tryd.func139 rfl (fun h => absurd (show false = true from h) (by decide)) (fun _ => ?_) | refine g_know TrydT_ok Tryd.func139 rfl (fun h => absurd (show false = true from h) (by decide)) (fun _ => ?_) | refine s_know TrydT_ok (fun h => absurd (show false = true from h) (by decide)) (fun _ => ?_))
    refine g_drawn TrydT_ok Tryd.func139 mixedT rfl ?_
    first | refine g_call TrydT_ok Tryd.func139 (expr172 _ hi) rfl rfl rfl rfl rfl ?_ | refine s_callq TrydT_ok (fun _ => expr172 _ hi) rfl rfl rfl ?_
    refine s_put TrydT_ok rfl rfl rfl ?_
    refine e_done TrydT_ok Tryd.func139 (by kernel_rfl) ?_
    refine g_ret_co TrydT_ok (r := _) rfl rfl rfl trivial rfl rfl ?_
    show CoD _ (.agg [ii 9, ii 0, ii 0, .i (.sl 4 2 [[vi 1, vi 0, vi (v : Int), .sl 4 0 []], [vi 0, vi hi, vi 0, .sl 4 0 []]])])
    repeat' (first | refine coD_tup ?_ | refine coD_agg ?_ | refine coD_i ?_ | refine CoDL.cons ?_ ?_ | exact CoDL.nil | exact coI_nil | refine coI_sl ?_ | refine CoLL.cons ?_ ?_ | exact CoLL.nil | refine CoL.cons ?_ ?_ | exact CoL.nil | exact CoI.refl _ | exact CoL.refl _ | exact CoLL.refl _ | exact CoDL.refl _ | exact CoD.refl _)
theorem exIs_take (l : List Ex) (k : Nat) : exIs (l.take k) = (exIs l).take k := by simp [exIs_map, List.map_take]
theorem exIs_drop (l : List Ex) (k : Nat) : exIs (l.drop k) = (exIs l).drop k := by simp [exIs_map, List.map_drop]
theorem joinR140 : ∀ (n : Nat) (l : List Ex) (op : Int) (O : List Heap), 1 ≤ l.length → l.length ≤ n → n ≤ 4096 → ASpec Tryd.prog 140 [ii op, exs l] O (exA (joinF op n l)) [] O := by
  intro n
  induction n with
  | zero => intro l op O h1 h2; omega
  | succ n ih =>
    intro l op O h1 h2 h3
    by_cases h4 : 2 ≤ l.length
    · rw [joinF_two op n h4]
      have ih1 := fun O => ih (l.take (l.length / 2)) op O (by simp; omega) (by simp; omega) (by omega)
      have ih2 := fun O => ih (l.drop (l.length / 2)) op O (by simp; omega) (by simp; omega) (by omega)
      refine aspec_intro TrydT_ok Tryd.func140 rfl Tryd.call140 Tryd.ntmps140 (Nat.le_of_ble_eq_true rfl) fun E => ?_
      refine g_run TrydT_ok Tryd.func140 ?_
      first | refine g_cnd TrydT_ok Tryd.func140 rfl (fun g1 => ?_) (fun g1 => ?_) | refine g_know TrydT_ok Tryd.func140 rfl (fun g1 => ?_) (fun g1 => ?_) | refine s_know TrydT_ok (fun g1 => ?_) (fun g1 => ?_)
      · have := beqT g1
        omega
      have hq : IntKind.i64.wrap (Int.tdiv (l.length : Int) 2) = ((l.length / 2 : Nat) : Int) := by
        rw [Int.tdiv_eq_ediv_of_nonneg (by omega), w64 (by omega) (by omega)]
        omega
      generalize hk : l.length / 2 = k at *
      have t1 : D.i (.sl 4 (IntKind.i64.wrap (Int.tdiv (l.length : Int) 2)).toNat ((exIs l).take (IntKind.i64.wrap (Int.tdiv (l.length : Int) 2)).toNat)) = exs (l.take k) := by
        rw [hq, Int.toNat_natCast, ← exIs_take]
        show _ = D.i (.sl 4 (l.take k).length (exIs (l.take k)))
        rw [List.length_take, Nat.min_eq_left (by omega)]
      have t2 : D.i (.sl 4 (l.length - (IntKind.i64.wrap (Int.tdiv (l.length : Int) 2)).toNat) ((exIs l).drop (IntKind.i64.wrap (Int.tdiv (l.length : Int) 2)).toNat)) = exs (l.drop k) := by
        rw [hq, Int.toNat_natCast, ← exIs_drop]
        show _ = D.i (.sl 4 (l.drop k).length (exIs (l.drop k)))
        rw [List.length_drop]
      generalize joinF op n (l.take k) = A at *
      generalize joinF op n (l.drop k) = B at *
      rw [← t1] at ih1
      rw [← t2] at ih2
      first | refine g_need TrydT_ok Tryd.func140 (by decide) ?_ | refine s_need TrydT_ok (by decide) ?_
      refine g_drawn TrydT_ok Tryd.func140 mixedT rfl ?_
      first | refine g_need TrydT_ok Tryd.func140 (by exact ⟨by rw [hq]; omega, by rw [hq]; show ((k : Nat) : Int) ≤ (l.length : Int); omega⟩) ?_ | refine s_need TrydT_ok (by exact ⟨by rw [hq]; omega, by rw [hq]; show ((k : Nat) : Int) ≤ (l.length : Int); omega⟩) ?_
      first | refine g_call TrydT_ok Tryd.func140 (ih1 _) rfl rfl rfl rfl rfl ?_ | refine s_callq TrydT_ok (fun _ => ih1 _) rfl rfl rfl ?_
      first | refine g_need TrydT_ok Tryd.func140 (by exact ⟨by rw [hq]; omega, by rw [hq]; show ((k : Nat) : Int) ≤ (l.length : Int); omega⟩) ?_ | refine s_need TrydT_ok (by exact ⟨by rw [hq]; omega, by rw [hq]; show ((k : Nat) : Int) ≤ (l.length : Int); omega⟩) ?_
      first | refine g_call TrydT_ok Tryd.func140 (ih2 _) rfl rfl rfl rfl rfl ?_ | refine s_callq TrydT_ok (fun _ => ih2 _) rfl rfl rfl ?_
      refine s_put TrydT_ok rfl rfl rfl ?_
      refine e_done TrydT_ok Tryd.func140 (by kernel_rfl) ?_
      refine g_ret TrydT_ok (r := .agg [ii op, ii 0, ii 0, .i (.sl 4 2 [[vi A.op, vi A.vl, vi A.ix, .sl 4 A.args.length (exIs A.args)], [vi B.op, vi B.vl, vi B.ix, .sl 4 B.args.length (exIs B.args)]])]) rfl rfl rfl trivial rfl rfl ?_
      show D.agg [ii op, ii 0, ii 0, .i (.sl 4 2 [[vi A.op, vi A.vl, vi A.ix, .sl 4 A.args.length (exIs A.args)], [vi B.op, vi B.vl, vi B.ix, .sl 4 B.args.length (exIs B.args)]])] = .agg [ii op, ii 0, ii 0, .i (.sl 4 2 [exI A, exI B])]
      rw [exI_eq, exI_eq]
    · obtain ⟨x, rfl⟩ := List.length_eq_one_iff.1 (show l.length = 1 by omega)
      rw [joinF_one]
      obtain ⟨xo, xv, xi, xa⟩ := x
      refine aspec_intro TrydT_ok Tryd.func140 rfl Tryd.call140 Tryd.ntmps140 (Nat.le_of_ble_eq_true rfl) fun E => ?_
      refine g_run TrydT_ok Tryd.func140 ?_
      repeat (first | refine g_cnd TrydT_ok Tryd.func140 rfl (fun _ => ?_) (fun h => absurd h (by decide)) | refine g_know TrydT_ok Tryd.func140 rfl (fun _ => ?_) (fun h => absurd h (by decide)) | refine s_know TrydT_ok (fun _ => ?_) (fun h => absurd h (by decide)) | refine g_cnd TrydT_ok Tryd.func140 rfl (fun h => absurd h (by decide)) (fun _ => ?_) | refine g_know TrydT_ok Tryd.func140 rfl (fun h => absurd h (by decide)) (fun _ => ?_) | refine s_know TrydT_ok (fun h => absurd h (by decide)) (fun _ => ?_) | refine g_cnd TrydT_ok Tryd.func140 rfl (fun _ => ?_) (fun h => absurd (show true = false from h) (by decide)) | refine g_know TrydT_ok Tryd.func140 rfl (fun _ => ?_) (fun h => absurd (show true = false from h) (by decide)) | refine s_know TrydT_ok (fun _ => ?_) (fun h => absurd (show true = false from h) (by decide)) | refine g_cnd TrydT_ok Tryd.func140 rfl (fun h => absurd (show false = true from h) (by decide)) (fun _ => ?_) | refine g_know TrydT_ok Tryd.func140 rfl (fun h => absurd (show false = true from h) (by decide)) (fun _ => ?_) | refine s_know TrydT_ok (fun h => absurd (show false = true from h) (by decide)) (fun _ => ?_))
      first | refine g_need TrydT_ok Tryd.func140 (by exact ⟨by decide, by show (0 : Int) < ((1 : Nat) : Int); decide⟩) ?_ | refine s_need TrydT_ok (by exact ⟨by decide, by show (0 : Int) < ((1 : Nat) : Int); decide⟩) ?_
      first | refine g_elem TrydT_ok Tryd.func140 (rfl) ?_ | refine s_elem TrydT_ok (rfl) ?_
      refine g_ret TrydT_ok (r := exA (.mk xo xv xi xa)) rfl rfl rfl trivial rfl rfl ?_
      rfl
end Go.AI


/- The guard of boxes. -/
namespace Go.AI
open Go.Proofs
set_option maxRecDepth 20000
abbrev oexs (l : List Ex) : Ob := .arr 41 4 l.length (exIs l) true
theorem exIs_app (l r : List Ex) : exIs (l ++ r) = exIs l ++ exIs r := by simp [exIs_map]
theorem oexs_app (l : List Ex) (x : Ex) : Ob.arr 41 4 (l.length + 1) (exIs l ++ [[vi x.op, vi x.vl, vi x.ix, .sl 4 x.args.length (exIs x.args)]]) true = oexs (l ++ [x]) := by
  rw [oexs, exIs_app, ← exI_eq]
  simp [exIs]
theorem exOk_joinF {op : Int} : ∀ {n : Nat} {l : List Ex}, (∀ x ∈ l, exOk x) → exOk (joinF op n l)
  | 0, l, _ => ⟨Nat.zero_le _, trivial⟩
  | n + 1, [], h => by
    show exOk (.mk op 0 0 [joinF op n _, joinF op n _])
    exact exOk_two (exOk_joinF (by simp)) (exOk_joinF (by simp))
  | n + 1, [x], h => h x (by simp)
  | n + 1, x :: y :: r, h => by
    show exOk (.mk op 0 0 [joinF op n _, joinF op n _])
    exact exOk_two (exOk_joinF fun z hz => h z (List.mem_of_mem_take hz)) (exOk_joinF fun z hz => h z (List.mem_of_mem_drop hz))
theorem exOk_lit (x : Lit) : exOk (litX x) := by
  unfold litX
  split
  · split
    · exact exOk_two (exOk_leaf _ _ _) (exOk_leaf _ _ _)
    · exact exOk_two (exOk_leaf _ _ _) (exOk_leaf _ _ _)
  · exact exOk_two (exOk_leaf _ _ _) (exOk_leaf _ _ _)
theorem exOk_true : exOk trueE := exOk_two (exOk_leaf _ _ _) (exOk_leaf _ _ _)
theorem exOk_parts (l : List Vr) (b : Bx) : ∀ x ∈ partsR l b, exOk x := by
  intro x hx
  unfold partsR at hx
  split at hx
  · rw [List.mem_singleton.1 hx]; exact exOk_true
  · obtain ⟨y, _, rfl⟩ := List.mem_map.1 hx
    exact exOk_lit y
theorem exOk_whole (l : List Vr) (boxes : List Bx) : exOk (wholeR l boxes) := by
  unfold wholeR
  split
  · exact exOk_two (exOk_leaf _ _ _) (exOk_leaf _ _ _)
  · refine exOk_joinF fun x hx => ?_
    obtain ⟨b, _, rfl⟩ := List.mem_map.1 hx
    exact exOk_joinF (exOk_parts l b)
theorem lits_len : ∀ (l : List Vr) (i : Nat) (ls hs : List Int), (litsR l i ls hs).length ≤ 2 * l.length
  | [], _, _, _ => by simp [litsR]
  | v :: r, i, [], hs => by simp [litsR]
  | v :: r, i, _ :: _, [] => by simp [litsR]
  | v :: r, i, lo :: ls, hi :: hs => by
    have := lits_len r (i + 1) ls hs
    simp only [litsR, List.length_append, List.length_cons]
    have h2 : (litsV i v lo hi).length ≤ 2 := by
      unfold litsV
      split
      · simp
      · split
        · simp
        · rw [List.length_append]
          split <;> split <;> simp
    omega
theorem coZeroE {e : Int} : CoD (.tup [.agg [ii 0, ii 0, ii 0, .i (.v (.slice none 0 0))], ii e]) (.tup [exA zeroE, ii e]) := by
  show CoD _ (.tup [.agg [ii 0, ii 0, ii 0, .i (.sl 4 0 [])], ii e])
  repeat' (first | refine coD_tup ?_ | refine coD_agg ?_ | refine coD_i ?_ | refine CoDL.cons ?_ ?_ | exact CoDL.nil | exact coI_nil | refine coI_sl ?_ | refine CoLL.cons ?_ ?_ | exact CoLL.nil | refine CoL.cons ?_ ?_ | exact CoL.nil | exact CoI.refl _ | exact CoL.refl _ | exact CoLL.refl _ | exact CoDL.refl _ | exact CoD.refl _)
theorem true56A (O : List Heap) : ASpec Tryd.prog 56 [] O (exA trueE) [] O := true42 O
set_option maxHeartbeats 4000000 in
theorem joined76 (O : List Heap) (l : List Vr) (boxes : List Bx) (hl : l.length ≤ 16) (hb : ∀ b ∈ boxes, b.low.length = l.length ∧ b.high.length = l.length) (hbl : boxes.length ≤ 4096) : ASpec Tryd.prog 76 [vrs l, bxs boxes] O (.tup [exA (joinedR l boxes).1, ii (joinedR l boxes).2]) [] O := by
  have hck := fun O => check67A O (wholeR l boxes) l.length (exOk_whole l boxes)
  generalize hR : joinedR l boxes = R
  unfold joinedR at hR
  by_cases he : boxes = []
  · subst he
    have hR : (falseE, (0 : Int)) = R := hR
    subst hR
    refine aspec_intro TrydT_ok Tryd.func76 rfl Tryd.call76 Tryd.ntmps76 (Nat.le_of_ble_eq_true rfl) fun E => ?_
    refine g_run TrydT_ok Tryd.func76 ?_
    repeat (first | refine g_cnd TrydT_ok Tryd.func76 rfl (fun _ => ?_) (fun h => absurd h (by decide)) | refine g_know TrydT_ok Tryd.func76 rfl (fun _ => ?_) (fun h => absurd h (by decide)) | refine s_know TrydT_ok (fun _ => ?_) (fun h => absurd h (by decide)) | refine g_cnd TrydT_ok Tryd.func76 rfl (fun h => absurd h (by decide)) (fun _ => ?_) | refine g_know TrydT_ok Tryd.func76 rfl (fun h => absurd h (by decide)) (fun _ => ?_) | refine s_know TrydT_ok (fun h => absurd h (by decide)) (fun _ => ?_) | refine g_cnd TrydT_ok Tryd.func76 rfl (fun _ => ?_) (fun h => absurd (show true = false from h) (by decide)) | refine g_know TrydT_ok Tryd.func76 rfl (fun _ => ?_) (fun h => absurd (show true = false from h) (by decide)) | refine s_know TrydT_ok (fun _ => ?_) (fun h => absurd (show true = false from h) (by decide)) | refine g_cnd TrydT_ok Tryd.func76 rfl (fun h => absurd (show false = true from h) (by decide)) (fun _ => ?_) | refine g_know TrydT_ok Tryd.func76 rfl (fun h => absurd (show false = true from h) (by decide)) (fun _ => ?_) | refine s_know TrydT_ok (fun h => absurd (show false = true from h) (by decide)) (fun _ => ?_))
    first | refine g_call TrydT_ok Tryd.func76 (false77 _) rfl rfl rfl rfl rfl ?_ | refine s_callq TrydT_ok (fun _ => false77 _) rfl rfl rfl ?_
    refine g_ret TrydT_ok (r := .tup [exA falseE, ii 0]) rfl rfl rfl trivial rfl rfl ?_
    rfl
  have hpos : 0 < boxes.length := List.length_pos_iff.2 he
  have hie : ¬ boxes.isEmpty = true := by simpa using he
  rw [if_neg hie] at hR
  have hjo := fun O (l' : List Ex) h1 h2 => joinR140 l'.length l' 12 O h1 (Nat.le_refl _) h2
  have hw : wholeR l boxes = joinF 12 (boxes.map fun b => joinR 11 (partsR l b)).length (boxes.map fun b => joinR 11 (partsR l b)) := by unfold wholeR; rw [if_neg hie]; rfl
  generalize wholeR l boxes = W at *
  generalize checkX W l.length = K at *
  obtain ⟨kk, ke⟩ := K
  simp only at hck hR
  refine aspec_stop [15, 17] TrydT_ok Tryd.func76 rfl Tryd.call76 Tryd.ntmps76 (Nat.le_of_ble_eq_true rfl) fun E => ?_
  refine g_run TrydT_ok Tryd.func76 ?_
  first | refine g_cnd TrydT_ok Tryd.func76 rfl (fun g0 => ?_) (fun g0 => ?_) | refine g_know TrydT_ok Tryd.func76 rfl (fun g0 => ?_) (fun g0 => ?_) | refine s_know TrydT_ok (fun g0 => ?_) (fun g0 => ?_)
  · have := beqT g0
    omega
  clear g0
  refine g_loop ?_
  refine rch_wk (wk_nil 6 50 41 4 rfl rfl rfl) ?_
  refine rch_loop2 (fun i : Nat => [(0, vrs l), (4, .own 0 4 0 0), (6, .osl 0 50), (19, bxs boxes), (20, ii boxes.length), (21, ii i)]) (fun i => [(4, .box [ii 0, ii 0, ii 0, .i (.v (.slice none 0 0))]), (50, oexs ((boxes.take i).map fun b => joinR 11 (partsR l b)))]) (fun _ => O) 66
    (fun i => i ≤ boxes.length) (fun i => boxes.length - i) 0 (Nat.zero_le _) ⟨rfl, rfl, rfl, rfl, rfl, rfl, trivial⟩ rfl ⟨rfl, rfl, trivial⟩ rfl rfl ?_
  intro i hi ih
  refine g_run TrydT_ok Tryd.func76 ?_
  first | refine g_cnd TrydT_ok Tryd.func76 rfl (fun g1 => ?_) (fun g1 => ?_) | refine g_know TrydT_ok Tryd.func76 rfl (fun g1 => ?_) (fun g1 => ?_) | refine s_know TrydT_ok (fun g1 => ?_) (fun g1 => ?_)
  · have h1 : i < boxes.length := by simpa using g1
    clear g1
    have gb : (boxes.map bxI)[(i : Int).toNat]? = some (bxI boxes[i]) := get_mapZ h1
    have hbs := hb _ (List.getElem_mem h1)
    have htk : (boxes.take (i + 1)).map (fun b => joinR 11 (partsR l b)) = (boxes.take i).map (fun b => joinR 11 (partsR l b)) ++ [joinR 11 (partsR l boxes[i])] := by rw [List.take_add_one, List.getElem?_eq_getElem h1, List.map_append]; rfl
    have hal : ((boxes.take i).map fun b => joinR 11 (partsR l b)).length = i := by simp; omega
    have hli := fun O => literals91 O l boxes[i] hbs.1 hbs.2 hl
    have hll := lits_len l 0 boxes[i].low boxes[i].high
    have hpa : partsR l boxes[i] = if (boxes[i].lits l).isEmpty then [trueE] else (boxes[i].lits l).map litX := rfl
    have hll : (boxes[i].lits l).length ≤ 2 * l.length := hll
    have hjp := fun O (a1 : 1 ≤ (partsR l boxes[i]).length) (a2 : (partsR l boxes[i]).length ≤ 4096) => joinR140 (partsR l boxes[i]).length (partsR l boxes[i]) 11 O a1 (Nat.le_refl _) a2
    have hjn : joinF 11 (partsR l boxes[i]).length (partsR l boxes[i]) = joinR 11 (partsR l boxes[i]) := rfl
    rw [hjn] at hjp
    generalize (boxes.take i).map (fun b => joinR 11 (partsR l b)) = acc at *
    generalize joinR 11 (partsR l boxes[i]) = X at *
    generalize boxes[i].lits l = L at *
    generalize hP : partsR l boxes[i] = P at *
    generalize boxes[i] = b at *
    obtain ⟨lo, hi2⟩ := b
    have hi1 : ii (IntKind.i64.wrap ((i : Int) + 1)) = ii ((i + 1 : Nat) : Int) := congrArg ii (wsucc (n := 4096) (by omega) (by decide))
    first | refine g_need TrydT_ok Tryd.func76 (by exact ⟨by omega, by show (i : Int) < (boxes.length : Int); omega⟩) ?_ | refine s_need TrydT_ok (by exact ⟨by omega, by show (i : Int) < (boxes.length : Int); omega⟩) ?_
    first | refine g_elem TrydT_ok Tryd.func76 (gb) ?_ | refine s_elem TrydT_ok (gb) ?_
    first | refine g_call TrydT_ok Tryd.func76 (hli _) rfl rfl rfl rfl rfl ?_ | refine s_callq TrydT_ok (fun _ => hli _) rfl rfl rfl ?_
    apply join_p (P := True) (s6 := { σ := [(0, vrs l), (4, .own 0 4 0 0), (6, .osl 0 50), (9, exs P), (19, bxs boxes), (20, ii boxes.length), (21, ii i)], S := [(4, .box [ii 0, ii 0, ii 0, .i (.v (.slice none 0 0))]), (50, oexs acc)] :: O, n := 66 })
    · intro J
      refine g_loop ?_
      refine rch_wk (wk_nil 9 37 41 4 rfl rfl rfl) ?_
      refine rch_loop2 (fun j : Nat => [(0, vrs l), (4, .own 0 4 0 0), (6, .osl 0 50), (9, .osl 0 37), (19, bxs boxes), (20, ii boxes.length), (21, ii i), (27, litsD L), (28, ii L.length), (29, ii j)]) (fun j => [(4, .box [ii 0, ii 0, ii 0, .i (.v (.slice none 0 0))]), (50, oexs acc), (37, oexs ((L.take j).map litX))]) (fun _ => O) 66
        (fun j => j ≤ L.length) (fun j => L.length - j) 0 (Nat.zero_le _) ⟨rfl, rfl, rfl, rfl, rfl, rfl, rfl, rfl, rfl, rfl, trivial⟩ rfl ⟨rfl, rfl, rfl, trivial⟩ rfl rfl ?_
      intro j hj ih2
      refine g_run TrydT_ok Tryd.func76 ?_
      first | refine g_cnd TrydT_ok Tryd.func76 rfl (fun g2 => ?_) (fun g2 => ?_) | refine g_know TrydT_ok Tryd.func76 rfl (fun g2 => ?_) (fun g2 => ?_) | refine s_know TrydT_ok (fun g2 => ?_) (fun g2 => ?_)
      · have h2 : j < L.length := by simpa using g2
        clear g2
        have gl : (L.map litI)[(j : Int).toNat]? = some (litI L[j]) := get_mapZ h2
        have htj : (L.take (j + 1)).map litX = (L.take j).map litX ++ [litX L[j]] := by rw [List.take_add_one, List.getElem?_eq_getElem h2, List.map_append]; rfl
        have hjl : ((L.take j).map litX).length = j := by simp; omega
        have hle := fun O => litExpr139 O L[j]
        generalize (L.take j).map litX = M at *
        generalize hY : litX L[j] = Y at *
        generalize L[j] = x at *
        obtain ⟨xv, xlo, xhi, xf, xt⟩ := x
        first | refine g_need TrydT_ok Tryd.func76 (by exact ⟨by omega, by show (j : Int) < (L.length : Int); omega⟩) ?_ | refine s_need TrydT_ok (by exact ⟨by omega, by show (j : Int) < (L.length : Int); omega⟩) ?_
        first | refine g_elem TrydT_ok Tryd.func76 (gl) ?_ | refine s_elem TrydT_ok (gl) ?_
        first | refine g_call TrydT_ok Tryd.func76 (hle _) rfl rfl rfl rfl rfl ?_ | refine s_callq TrydT_ok (fun _ => hle _) rfl rfl rfl ?_
        first | refine g_need TrydT_ok Tryd.func76 (by exact ⟨by show (M.length + 1) * 48 ≤ 140737488355328; omega, by show M.length + 1 ≤ 9223372036854775807; omega⟩) ?_ | refine s_need TrydT_ok (by exact ⟨by show (M.length + 1) * 48 ≤ 140737488355328; omega, by show M.length + 1 ≤ 9223372036854775807; omega⟩) ?_
        refine g_loop ?_
        exact ih2 (j + 1) _ _ h2 (by omega) ⟨rfl, rfl, rfl, rfl, rfl, rfl, rfl, rfl, rfl, congrArg ii (wsucc (n := 4096) (by omega) (by decide)), trivial⟩ rfl ⟨rfl, rfl, by rw [htj]; exact congrArg some (oexs_app M Y), trivial⟩ rfl rfl
      · have h2 : L.length ≤ j := by simpa using g2
        rw [List.take_of_length_le h2]
        cases hLe : L with
        | nil =>
          subst hLe
          have hP1 : P = [trueE] := by rw [hpa]; rfl
          repeat (first | refine g_cnd TrydT_ok Tryd.func76 rfl (fun _ => ?_) (fun h => absurd h (by decide)) | refine g_know TrydT_ok Tryd.func76 rfl (fun _ => ?_) (fun h => absurd h (by decide)) | refine s_know TrydT_ok (fun _ => ?_) (fun h => absurd h (by decide)) | refine g_cnd TrydT_ok Tryd.func76 rfl (fun h => absurd h (by decide)) (fun _ => ?_) | refine g_know TrydT_ok Tryd.func76 rfl (fun h => absurd h (by decide)) (fun _ => ?_) | refine s_know TrydT_ok (fun h => absurd h (by decide)) (fun _ => ?_) | refine g_cnd TrydT_ok Tryd.func76 rfl (fun _ => ?_) (fun h => absurd (show true = false from h) (by decide)) | refine g_know TrydT_ok Tryd.func76 rfl (fun _ => ?_) (fun h => absurd (show true = false from h) (by decide)) | refine s_know TrydT_ok (fun _ => ?_) (fun h => absurd (show true = false from h) (by decide)) | refine g_cnd TrydT_ok Tryd.func76 rfl (fun h => absurd (show false = true from h) (by decide)) (fun _ => ?_) | refine g_know TrydT_ok Tryd.func76 rfl (fun h => absurd (show false = true from h) (by decide)) (fun _ => ?_) | refine s_know TrydT_ok (fun h => absurd (show false = true from h) (by decide)) (fun _ => ?_))
          first | refine g_call TrydT_ok Tryd.func76 (true56A _) rfl rfl rfl rfl rfl ?_ | refine s_callq TrydT_ok (fun _ => true56A _) rfl rfl rfl ?_
          first | refine g_need TrydT_ok Tryd.func76 (by decide) ?_ | refine s_need TrydT_ok (by decide) ?_
          refine g_stop ?_
          refine rch_wk (wk_freeze 45 rfl rfl) ?_
          refine rch_wk (wk_imm rfl) ?_
          refine rch_meet (J trivial) ⟨rfl, rfl, rfl, by rw [hP1]; rfl, rfl, rfl, rfl, trivial⟩ rfl ⟨rfl, rfl, trivial⟩ rfl rfl
        | cons y r =>
          have hP1 : P = L.map litX := by rw [hpa, hLe]; rfl
          rw [← hLe]
          first | refine g_cnd TrydT_ok Tryd.func76 rfl (fun g3 => ?_) (fun g3 => ?_) | refine g_know TrydT_ok Tryd.func76 rfl (fun g3 => ?_) (fun g3 => ?_) | refine s_know TrydT_ok (fun g3 => ?_) (fun g3 => ?_)
          · have := beqT g3
            rw [List.length_map, hLe, List.length_cons] at this
            omega
          refine g_stop ?_
          refine rch_wk (wk_freeze 37 rfl rfl) ?_
          refine rch_wk (wk_imm rfl) ?_
          refine rch_meet (J trivial) ⟨rfl, rfl, rfl, by rw [hP1]; rfl, rfl, rfl, rfl, trivial⟩ rfl ⟨rfl, rfl, trivial⟩ rfl rfl
    · intro _
      have hP0 : 1 ≤ P.length ∧ P.length ≤ 4096 := by
        rw [hpa]
        cases L with
        | nil => exact ⟨by simp, by simp⟩
        | cons y r => simp only [List.isEmpty_cons, List.length_map, List.length_cons] at hll ⊢; simp; omega
      refine g_run TrydT_ok Tryd.func76 ?_
      refine g_go TrydT_ok Tryd.func76 ?_
      first | refine g_call TrydT_ok Tryd.func76 (hjp _ hP0.1 hP0.2) rfl rfl rfl rfl rfl ?_ | refine s_callq TrydT_ok (fun _ => hjp _ hP0.1 hP0.2) rfl rfl rfl ?_
      first | refine g_need TrydT_ok Tryd.func76 (by exact ⟨by show (acc.length + 1) * 48 ≤ 140737488355328; omega, by show acc.length + 1 ≤ 9223372036854775807; omega⟩) ?_ | refine s_need TrydT_ok (by exact ⟨by show (acc.length + 1) * 48 ≤ 140737488355328; omega, by show acc.length + 1 ≤ 9223372036854775807; omega⟩) ?_
      refine g_loop ?_
      exact ih (i + 1) _ _ h1 (by omega) ⟨rfl, rfl, rfl, rfl, rfl, hi1, trivial⟩ rfl ⟨rfl, by rw [htk]; exact congrArg some (oexs_app acc X), trivial⟩ rfl rfl
  · have h1 : boxes.length ≤ i := by simpa using g1
    rw [List.take_of_length_le h1]
    have hal : (boxes.map fun b => joinR 11 (partsR l b)).length = boxes.length := by simp
    generalize boxes.map (fun b => joinR 11 (partsR l b)) = acc at *
    have hjo := fun O => hjo O acc (by omega) (by omega)
    rw [← hw] at hjo
    obtain ⟨wo, wv, wi, wa⟩ := W
    refine g_stop ?_
    refine rch_wk (wk_freeze 50 rfl rfl) ?_
    refine rch_wk (wk_imm rfl) ?_
    refine g_run TrydT_ok Tryd.func76 ?_
    refine g_go TrydT_ok Tryd.func76 ?_
    first | refine g_call TrydT_ok Tryd.func76 (hjo _) rfl rfl rfl rfl rfl ?_ | refine s_callq TrydT_ok (fun _ => hjo _) rfl rfl rfl ?_
    first | refine g_call TrydT_ok Tryd.func76 (hck _) rfl rfl rfl rfl rfl ?_ | refine s_callq TrydT_ok (fun _ => hck _) rfl rfl rfl ?_
    first | refine g_cnd TrydT_ok Tryd.func76 rfl (fun g2 => ?_) (fun g2 => ?_) | refine g_know TrydT_ok Tryd.func76 rfl (fun g2 => ?_) (fun g2 => ?_) | refine s_know TrydT_ok (fun g2 => ?_) (fun g2 => ?_)
    · have g2 := bneT g2
      rw [if_pos g2] at hR
      subst hR
      refine g_ret_co TrydT_ok (r := .tup [.agg [ii 0, ii 0, ii 0, .i (.v (.slice none 0 0))], ii ke]) rfl rfl rfl trivial rfl rfl ?_
      exact coZeroE
    have g2 := bneF g2
    rw [if_neg (by simpa using g2)] at hR
    subst hR
    refine g_ret TrydT_ok (r := .tup [exA (.mk wo wv wi wa), ii 0]) rfl rfl rfl trivial rfl rfl ?_
    rfl
end Go.AI
