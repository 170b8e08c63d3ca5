/- The layer of abstract runs, part 39. -/
import Derived.Test.YtonnakcgopcfnaaDoorPartZL
set_option linter.unusedSimpArgs false
set_option linter.unusedVariables false
set_option linter.all false

/- Equal lists, boxes that contain values, searches in lists of boxes and of values. -/
namespace Go.AI
open Go.Proofs
set_option maxRecDepth 20000
abbrev bxI (b : Bx) : List I := [intsI b.low, intsI b.high]
abbrev bxD (b : Bx) : D := .agg [ints b.low, ints b.high]
abbrev bxs (l : List Bx) : D := .i (.sl 2 l.length (l.map bxI))
abbrev obxs (l : List Bx) : Ob := .arr 55 2 l.length (l.map bxI) true
theorem obxs_app (l : List Bx) (x : Bx) : Ob.arr 55 2 (l.length + 1) (l.map bxI ++ [bxI x]) true = obxs (l ++ [x]) := by simp
theorem sameInts36 (O : List Heap) (a b : List Int) (ha : a.length ≤ max63) : ASpec Tryd.prog 36 [ints a, ints b] O (bb (decide (a = b))) [] O := by
  refine aspec_intro Tk Tryd.func36 rfl Tryd.call36 Tryd.ntmps36 (Nat.le_of_ble_eq_true rfl) fun E => ?_
  refine g_run Tk Tryd.func36 ?_
  first | refine g_cnd Tk Tryd.func36 rfl (fun h1 => ?_) (fun h1 => ?_) | refine g_know Tk Tryd.func36 rfl (fun h1 => ?_) (fun h1 => ?_) | refine s_know Tk (fun h1 => ?_) (fun h1 => ?_)
  · have h1 := bneT h1
    rw [decide_eq_false fun e => h1 (by rw [e])]
    refine g_ret Tk (r := bb false) rfl rfl rfl trivial rfl rfl ?_
    rfl
  have h1 := bneF h1
  have hlen : a.length = b.length := by
    have : ((a.length : Nat) : Int) = b.length := by simpa using h1
    omega
  refine g_loop ?_
  refine rch_loop2 (fun i : Nat => [(0, ints a), (1, ints b), (5, ii i)]) (fun _ => []) (fun _ => O) 26
    (fun i => i ≤ a.length ∧ ∀ (j : Nat) (h : j < a.length), j < i → a[j] = b[j]'(by omega)) (fun i => a.length - i) 0 ⟨Nat.zero_le _, fun j _ h => by omega⟩ ⟨rfl, rfl, rfl, trivial⟩ rfl trivial rfl rfl ?_
  rintro i ⟨hi, hno⟩ ih
  refine g_run Tk Tryd.func36 ?_
  first | refine g_cnd Tk Tryd.func36 rfl (fun h2 => ?_) (fun h2 => ?_) | refine g_know Tk Tryd.func36 rfl (fun h2 => ?_) (fun h2 => ?_) | refine s_know Tk (fun h2 => ?_) (fun h2 => ?_)
  · have h2 : i < a.length := by simpa using h2
    have ga : (a.map fun x => [vi x])[(i : Int).toNat]? = some [(fun x => vi x) a[i]] := get_mapZ (f := fun x => [vi x]) h2
    have gb : (b.map fun x => [vi x])[(i : Int).toNat]? = some [(fun x => vi x) (b[i]'(by omega))] := get_mapZ (f := fun x => [vi x]) (by omega)
    have hne : a[i] ≠ b[i]'(by omega) → a ≠ b := fun h e => by subst e; exact h rfl
    have hstep : a[i] = b[i]'(by omega) → ∀ (j : Nat) (h : j < a.length), j < i + 1 → a[j] = b[j]'(by omega) := fun h j hj hji => by
      by_cases e : j = i
      · subst e; exact h
      · exact hno j hj (by omega)
    generalize a[i] = x at *
    generalize b[i]'(by omega) = y at *
    refine g_drawn Tk Tryd.func36 mixedT rfl ?_
    first | refine g_need Tk Tryd.func36 (by exact ⟨by omega, by show (i : Int) < (a.length : Int); omega⟩) ?_ | refine s_need Tk (by exact ⟨by omega, by show (i : Int) < (a.length : Int); omega⟩) ?_
    first | refine g_elem Tk Tryd.func36 (ga) ?_ | refine s_elem Tk (ga) ?_
    first | refine g_need Tk Tryd.func36 (by exact ⟨by omega, by show (i : Int) < (b.length : Int); omega⟩) ?_ | refine s_need Tk (by exact ⟨by omega, by show (i : Int) < (b.length : Int); omega⟩) ?_
    first | refine g_elem Tk Tryd.func36 (gb) ?_ | refine s_elem Tk (gb) ?_
    refine e_done Tk Tryd.func36 (by kernel_rfl) ?_
    first | refine g_cnd Tk Tryd.func36 rfl (fun h3 => ?_) (fun h3 => ?_) | refine g_know Tk Tryd.func36 rfl (fun h3 => ?_) (fun h3 => ?_) | refine s_know Tk (fun h3 => ?_) (fun h3 => ?_)
    · have h3 : x ≠ y := by simpa using h3
      rw [decide_eq_false (hne h3)]
      refine g_ret Tk (r := bb false) rfl rfl rfl trivial rfl rfl ?_
      rfl
    · have h3 : x = y := by simpa using h3
      refine g_loop ?_
      exact ih (i + 1) _ _ ⟨h2, hstep h3⟩ (by omega) ⟨rfl, rfl, congrArg ii (wsucc h2 ha), trivial⟩ rfl trivial rfl rfl
  · have h2 : a.length ≤ i := by simpa using h2
    have : a = b := List.ext_getElem hlen fun j h h' => hno j h (by omega)
    rw [decide_eq_true this]
    refine g_ret Tk (r := bb true) rfl rfl rfl trivial rfl rfl ?_
    rfl
theorem contains152 (O : List Heap) (b : Bx) (v : List Int) (h1 : v.length ≤ b.low.length) (h2 : v.length ≤ b.high.length) (hl : v.length ≤ max63) : ASpec Tryd.prog 152 [bxD b, ints v] O (bb (b.has v)) [] O := by
  obtain ⟨lo, hi⟩ := b
  unfold Bx.has
  simp only at h1 h2 ⊢
  generalize hR : contB v lo hi = R
  refine aspec_intro Tk Tryd.func152 rfl Tryd.call152 Tryd.ntmps152 (Nat.le_of_ble_eq_true rfl) fun E => ?_
  refine g_run Tk Tryd.func152 ?_
  refine g_loop ?_
  refine rch_loop2 (fun i : Nat => [(2, .own 0 2 0 0), (7, ints v), (8, ii v.length), (9, ii i)]) (fun i => [(2, .box [ints lo, ints hi])]) (fun _ => O) 31
    (fun i => i ≤ v.length ∧ contB (v.drop i) (lo.drop i) (hi.drop i) = R) (fun i => v.length - i) 0 ⟨Nat.zero_le _, hR⟩ ⟨rfl, rfl, rfl, rfl, trivial⟩ rfl ⟨rfl, trivial⟩ rfl rfl ?_
  rintro i ⟨hi', hno⟩ ih
  clear hR
  refine g_run Tk Tryd.func152 ?_
  first | refine g_cnd Tk Tryd.func152 rfl (fun g1 => ?_) (fun g1 => ?_) | refine g_know Tk Tryd.func152 rfl (fun g1 => ?_) (fun g1 => ?_) | refine s_know Tk (fun g1 => ?_) (fun g1 => ?_)
  · have h3 : i < v.length := by simpa using g1
    have gv : (v.map fun x => [vi x])[(i : Int).toNat]? = some [vi v[i]] := get_mapZ (f := fun x => [vi x]) h3
    have gl : (lo.map fun x => [vi x])[(i : Int).toNat]? = some [vi (lo[i]'(by omega))] := get_mapZ (f := fun x => [vi x]) (by omega)
    have gh : (hi.map fun x => [vi x])[(i : Int).toNat]? = some [vi (hi[i]'(by omega))] := get_mapZ (f := fun x => [vi x]) (by omega)
    have dv : v.drop i = v[i] :: v.drop (i + 1) := List.drop_eq_getElem_cons h3
    have dl : lo.drop i = (lo[i]'(by omega)) :: lo.drop (i + 1) := List.drop_eq_getElem_cons (by omega)
    have dh : hi.drop i = (hi[i]'(by omega)) :: hi.drop (i + 1) := List.drop_eq_getElem_cons (by omega)
    rw [dv, dl, dh] at hno
    simp only [contB] at hno
    clear dv dl dh
    generalize v[i] = x at *
    generalize lo[i]'(by omega) = a at *
    generalize hi[i]'(by omega) = c at *
    first | refine g_need Tk Tryd.func152 (by exact ⟨by omega, by show (i : Int) < (v.length : Int); omega⟩) ?_ | refine s_need Tk (by exact ⟨by omega, by show (i : Int) < (v.length : Int); omega⟩) ?_
    first | refine g_elem Tk Tryd.func152 (gv) ?_ | refine s_elem Tk (gv) ?_
    first | refine g_need Tk Tryd.func152 (by exact ⟨by omega, by show (i : Int) < (lo.length : Int); omega⟩) ?_ | refine s_need Tk (by exact ⟨by omega, by show (i : Int) < (lo.length : Int); omega⟩) ?_
    first | refine g_elem Tk Tryd.func152 (gl) ?_ | refine s_elem Tk (gl) ?_
    first | refine g_cnd Tk Tryd.func152 rfl (fun h4 => ?_) (fun h4 => ?_) | refine g_know Tk Tryd.func152 rfl (fun h4 => ?_) (fun h4 => ?_) | refine s_know Tk (fun h4 => ?_) (fun h4 => ?_)
    · have h4 : x < a := of_decide_eq_true h4
      have : R = false := by rw [← hno]; simp [h4]
      subst this
      repeat (first | refine g_cnd Tk Tryd.func152 rfl (fun _ => ?_) (fun h => absurd h (by decide)) | refine g_cnd Tk Tryd.func152 rfl (fun h => absurd h (by decide)) (fun _ => ?_) | refine g_know Tk Tryd.func152 rfl (fun _ => ?_) (fun h => absurd h (by decide)) | refine g_know Tk Tryd.func152 rfl (fun h => absurd h (by decide)) (fun _ => ?_) | refine s_know Tk (fun _ => ?_) (fun h => absurd h (by decide)) | refine s_know Tk (fun h => absurd h (by decide)) (fun _ => ?_))
      refine g_ret Tk (r := bb false) rfl rfl rfl trivial rfl rfl ?_
      rfl
    have h4 : ¬ x < a := of_decide_eq_false h4
    first | refine g_need Tk Tryd.func152 (by exact ⟨by omega, by show (i : Int) < (hi.length : Int); omega⟩) ?_ | refine s_need Tk (by exact ⟨by omega, by show (i : Int) < (hi.length : Int); omega⟩) ?_
    first | refine g_elem Tk Tryd.func152 (gh) ?_ | refine s_elem Tk (gh) ?_
    first | refine g_cnd Tk Tryd.func152 rfl (fun h5 => ?_) (fun h5 => ?_) | refine g_know Tk Tryd.func152 rfl (fun h5 => ?_) (fun h5 => ?_) | refine s_know Tk (fun h5 => ?_) (fun h5 => ?_)
    · have h5 : c < x := of_decide_eq_true h5
      have : R = false := by rw [← hno]; simp [h5]
      subst this
      refine g_ret Tk (r := bb false) rfl rfl rfl trivial rfl rfl ?_
      rfl
    have h5 : ¬ c < x := of_decide_eq_false h5
    have hno : contB (v.drop (i + 1)) (lo.drop (i + 1)) (hi.drop (i + 1)) = R := by rw [← hno]; simp [h4, h5]
    refine g_loop ?_
    exact ih (i + 1) _ _ ⟨h3, hno⟩ (by omega) ⟨rfl, rfl, rfl, congrArg ii (wsucc h3 hl), trivial⟩ rfl ⟨rfl, trivial⟩ rfl rfl
  · have h3 : v.length ≤ i := by simpa using g1
    rw [List.drop_eq_nil_of_le h3] at hno
    have : R = true := by rw [← hno]; cases lo.drop i <;> cases hi.drop i <;> rfl
    subst this
    refine g_ret Tk (r := bb true) rfl rfl rfl trivial rfl rfl ?_
    rfl
theorem contains152o (O : List Heap) (b : Bx) (v : List Int) (d n1 n2 : Nat) (ho1 : objAt O d n1 = some (oints b.low)) (ho2 : objAt O d n2 = some (oints b.high)) (h1 : v.length ≤ b.low.length) (h2 : v.length ≤ b.high.length) (hl : v.length ≤ max63) : ASpec Tryd.prog 152 [.agg [.osl d n1, .osl d n2], ints v] O (bb (b.has v)) [] O := by
  obtain ⟨lo, hi⟩ := b
  unfold Bx.has
  simp only at h1 h2 ho1 ho2 ⊢
  generalize hR : contB v lo hi = R
  refine aspec_intro Tk Tryd.func152 rfl Tryd.call152 Tryd.ntmps152 (Nat.le_of_ble_eq_true rfl) fun E => ?_
  refine g_run Tk Tryd.func152 ?_
  refine g_loop ?_
  refine rch_loop2 (fun i : Nat => [(2, .own 0 2 0 0), (7, ints v), (8, ii v.length), (9, ii i)]) (fun i => [(2, .box [.osl (d + 1) n1, .osl (d + 1) n2])]) (fun _ => O) 31
    (fun i => i ≤ v.length ∧ contB (v.drop i) (lo.drop i) (hi.drop i) = R) (fun i => v.length - i) 0 ⟨Nat.zero_le _, hR⟩ ⟨rfl, rfl, rfl, rfl, trivial⟩ rfl ⟨rfl, trivial⟩ rfl rfl ?_
  rintro i ⟨hi', hno⟩ ih
  clear hR
  refine g_run Tk Tryd.func152 ?_
  first | refine g_cnd Tk Tryd.func152 rfl (fun g1 => ?_) (fun g1 => ?_) | refine g_know Tk Tryd.func152 rfl (fun g1 => ?_) (fun g1 => ?_) | refine s_know Tk (fun g1 => ?_) (fun g1 => ?_)
  · have h3 : i < v.length := by simpa using g1
    have gv : (v.map fun x => [vi x])[(i : Int).toNat]? = some [vi v[i]] := get_mapZ (f := fun x => [vi x]) h3
    have gl : (lo.map fun x => [vi x])[(i : Int).toNat]? = some [vi (lo[i]'(by omega))] := get_mapZ (f := fun x => [vi x]) (by omega)
    have gh : (hi.map fun x => [vi x])[(i : Int).toNat]? = some [vi (hi[i]'(by omega))] := get_mapZ (f := fun x => [vi x]) (by omega)
    have dv : v.drop i = v[i] :: v.drop (i + 1) := List.drop_eq_getElem_cons h3
    have dl : lo.drop i = (lo[i]'(by omega)) :: lo.drop (i + 1) := List.drop_eq_getElem_cons (by omega)
    have dh : hi.drop i = (hi[i]'(by omega)) :: hi.drop (i + 1) := List.drop_eq_getElem_cons (by omega)
    rw [dv, dl, dh] at hno
    simp only [contB] at hno
    clear dv dl dh
    generalize v[i] = x at *
    generalize lo[i]'(by omega) = a at *
    generalize hi[i]'(by omega) = c at *
    first | refine g_need Tk Tryd.func152 (by exact ⟨by omega, by show (i : Int) < (v.length : Int); omega⟩) ?_ | refine s_need Tk (by exact ⟨by omega, by show (i : Int) < (v.length : Int); omega⟩) ?_
    first | refine g_elem Tk Tryd.func152 (gv) ?_ | refine s_elem Tk (gv) ?_
    first | refine g_obj Tk Tryd.func152 (up_obj ho1) ?_ | refine s_obj Tk (up_obj ho1) ?_
    first | refine g_need Tk Tryd.func152 (by exact ⟨by omega, by show (i : Int) < (lo.length : Int); omega⟩) ?_ | refine s_need Tk (by exact ⟨by omega, by show (i : Int) < (lo.length : Int); omega⟩) ?_
    first | refine g_obj Tk Tryd.func152 (up_obj ho1) ?_ | refine s_obj Tk (up_obj ho1) ?_
    first | refine g_elem Tk Tryd.func152 (gl) ?_ | refine s_elem Tk (gl) ?_
    first | refine g_cnd Tk Tryd.func152 rfl (fun h4 => ?_) (fun h4 => ?_) | refine g_know Tk Tryd.func152 rfl (fun h4 => ?_) (fun h4 => ?_) | refine s_know Tk (fun h4 => ?_) (fun h4 => ?_)
    · have h4 : x < a := of_decide_eq_true h4
      have : R = false := by rw [← hno]; simp [h4]
      subst this
      repeat (first | refine g_cnd Tk Tryd.func152 rfl (fun _ => ?_) (fun h => absurd h (by decide)) | refine g_cnd Tk Tryd.func152 rfl (fun h => absurd h (by decide)) (fun _ => ?_) | refine g_know Tk Tryd.func152 rfl (fun _ => ?_) (fun h => absurd h (by decide)) | refine g_know Tk Tryd.func152 rfl (fun h => absurd h (by decide)) (fun _ => ?_) | refine s_know Tk (fun _ => ?_) (fun h => absurd h (by decide)) | refine s_know Tk (fun h => absurd h (by decide)) (fun _ => ?_))
      refine g_ret Tk (r := bb false) rfl rfl rfl trivial rfl rfl ?_
      rfl
    have h4 : ¬ x < a := of_decide_eq_false h4
    first | refine g_obj Tk Tryd.func152 (up_obj ho2) ?_ | refine s_obj Tk (up_obj ho2) ?_
    first | refine g_need Tk Tryd.func152 (by exact ⟨by omega, by show (i : Int) < (hi.length : Int); omega⟩) ?_ | refine s_need Tk (by exact ⟨by omega, by show (i : Int) < (hi.length : Int); omega⟩) ?_
    first | refine g_obj Tk Tryd.func152 (up_obj ho2) ?_ | refine s_obj Tk (up_obj ho2) ?_
    first | refine g_elem Tk Tryd.func152 (gh) ?_ | refine s_elem Tk (gh) ?_
    first | refine g_cnd Tk Tryd.func152 rfl (fun h5 => ?_) (fun h5 => ?_) | refine g_know Tk Tryd.func152 rfl (fun h5 => ?_) (fun h5 => ?_) | refine s_know Tk (fun h5 => ?_) (fun h5 => ?_)
    · have h5 : c < x := of_decide_eq_true h5
      have : R = false := by rw [← hno]; simp [h5]
      subst this
      refine g_ret Tk (r := bb false) rfl rfl rfl trivial rfl rfl ?_
      rfl
    have h5 : ¬ c < x := of_decide_eq_false h5
    have hno : contB (v.drop (i + 1)) (lo.drop (i + 1)) (hi.drop (i + 1)) = R := by rw [← hno]; simp [h4, h5]
    refine g_loop ?_
    exact ih (i + 1) _ _ ⟨h3, hno⟩ (by omega) ⟨rfl, rfl, rfl, congrArg ii (wsucc h3 hl), trivial⟩ rfl ⟨rfl, trivial⟩ rfl rfl
  · have h3 : v.length ≤ i := by simpa using g1
    rw [List.drop_eq_nil_of_le h3] at hno
    have : R = true := by rw [← hno]; cases lo.drop i <;> cases hi.drop i <;> rfl
    subst this
    refine g_ret Tk (r := bb true) rfl rfl rfl trivial rfl rfl ?_
    rfl
end Go.AI


/- Searches with closures; whether a box is free. -/
namespace Go.AI
open Go.Proofs
set_option maxRecDepth 20000
theorem indexFunc187a (O : List Heap) (l : List (List Int)) (f : Nat) (d n1 n2 : Nat) (p : (List Int) → Bool) (hl : l.length ≤ max63) (hp : ∀ x ∈ l, ASpec Tryd.prog f [.agg [.osl (d + 1) n1, .osl (d + 1) n2], ints x] ([] :: O) (bb (p x)) [] ([] :: O)) :
    ASpec Tryd.prog 187 [intss l, .fn (.func f) [.agg [.osl d n1, .osl d n2]] []] O (ii (findIx p l 0)) [] O := by
  refine aspec_intro Tk Tryd.func187 rfl Tryd.call187 Tryd.ntmps187 (Nat.le_of_ble_eq_true rfl) fun E => ?_
  refine g_run Tk Tryd.func187 ?_
  refine g_loop ?_
  refine rch_loop2 (fun i : Nat => [(0, intss l), (1, .fn (.func f) [.agg [.osl (d + 1) n1, .osl (d + 1) n2]] []), (6, intss l), (7, ii l.length), (8, ii i)]) (fun _ => []) (fun _ => O) 19 (fun i => i ≤ l.length ∧ findIx p l 0 = findIx p (l.drop i) i) (fun i => l.length - i) 0 ⟨Nat.zero_le _, rfl⟩ ⟨rfl, rfl, rfl, rfl, rfl, trivial⟩ rfl trivial rfl rfl ?_
  intro i ⟨hi, hno⟩ ih
  rw [hno]
  rw [hno] at ih
  refine g_run Tk Tryd.func187 ?_
  first | refine g_cnd Tk Tryd.func187 rfl (fun h1 => ?_) (fun h1 => ?_) | refine g_know Tk Tryd.func187 rfl (fun h1 => ?_) (fun h1 => ?_) | refine s_know Tk (fun h1 => ?_) (fun h1 => ?_)
  · have h1 : i < l.length := by simpa using h1
    have hd : l.drop i = l[i] :: l.drop (i + 1) := (List.drop_eq_getElem_cons h1)
    first | refine g_need Tk Tryd.func187 (by omega) ?_ | refine s_need Tk (by omega) ?_
    first | refine g_elem Tk Tryd.func187 (get_mapZ (f := fun x => [intsI x]) h1) ?_ | refine s_elem Tk (get_mapZ (f := fun x => [intsI x]) h1) ?_
    first | refine g_call Tk Tryd.func187 (hp l[i] (List.getElem_mem h1)) rfl rfl rfl rfl rfl ?_ | refine s_callq Tk (fun _ => hp l[i] (List.getElem_mem h1)) rfl rfl rfl ?_
    first | refine g_cnd Tk Tryd.func187 rfl (fun h2 => ?_) (fun h2 => ?_) | refine g_know Tk Tryd.func187 rfl (fun h2 => ?_) (fun h2 => ?_) | refine s_know Tk (fun h2 => ?_) (fun h2 => ?_)
    · refine g_ret Tk (r := ii _) rfl rfl rfl trivial rfl rfl ?_
      rw [hd]
      simp only [findIx]
      rw [if_pos h2]
    · refine g_loop ?_
      refine ih (i + 1) _ _ ⟨h1, ?_⟩ (by omega) ⟨rfl, rfl, rfl, rfl, congrArg ii (wsucc h1 hl), trivial⟩ rfl trivial rfl rfl
      rw [hd]
      simp only [findIx]
      rw [if_neg (by rw [h2]; simp)]
  · have h1 : l.length ≤ i := by simpa using h1
    refine g_ret Tk (r := ii _) rfl rfl rfl trivial rfl rfl ?_
    rw [List.drop_eq_nil_of_le h1]
    rfl
theorem containsFunc170a (O : List Heap) (l : List (List Int)) (f : Nat) (d n1 n2 : Nat) (p : (List Int) → Bool) (hl : l.length ≤ max63) (hp : ∀ x ∈ l, ASpec Tryd.prog f [.agg [.osl (d + 2) n1, .osl (d + 2) n2], ints x] ([] :: [] :: O) (bb (p x)) [] ([] :: [] :: O)) :
    ASpec Tryd.prog 170 [intss l, .fn (.func f) [.agg [.osl d n1, .osl d n2]] []] O (bb (l.any p)) [] O := by
  refine aspec_intro Tk Tryd.func170 rfl Tryd.call170 Tryd.ntmps170 (Nat.le_of_ble_eq_true rfl) fun E => ?_
  refine g_run Tk Tryd.func170 ?_
  first | refine g_call Tk Tryd.func170 (indexFunc187a _ l f (d + 1) n1 n2 p hl hp) rfl rfl rfl rfl rfl ?_ | refine s_callq Tk (fun _ => indexFunc187a _ l f (d + 1) n1 n2 p hl hp) rfl rfl rfl ?_
  refine g_ret Tk (r := bb _) rfl rfl rfl trivial rfl rfl ?_
  exact congrArg bb (findIx_any p l 0)
theorem indexFunc187c (O : List Heap) (l : List (List Int)) (f : Nat) (d n1 n2 n3 : Nat) (p : (List Int) → Bool) (hl : l.length ≤ max63) (hp : ∀ x ∈ l, ASpec Tryd.prog f [ints x, .own (d + 1) n1 0 0, .own (d + 1) n2 0 0, .own (d + 1) n3 0 0] ([] :: O) (bb (p x)) [] ([] :: O)) :
    ASpec Tryd.prog 187 [intss l, .fn (.func f) [] [.own d n1 0 0, .own d n2 0 0, .own d n3 0 0]] O (ii (findIx p l 0)) [] O := by
  refine aspec_intro Tk Tryd.func187 rfl Tryd.call187 Tryd.ntmps187 (Nat.le_of_ble_eq_true rfl) fun E => ?_
  refine g_run Tk Tryd.func187 ?_
  refine g_loop ?_
  refine rch_loop2 (fun i : Nat => [(0, intss l), (1, .fn (.func f) [] [.own (d + 1) n1 0 0, .own (d + 1) n2 0 0, .own (d + 1) n3 0 0]), (6, intss l), (7, ii l.length), (8, ii i)]) (fun _ => []) (fun _ => O) 19 (fun i => i ≤ l.length ∧ findIx p l 0 = findIx p (l.drop i) i) (fun i => l.length - i) 0 ⟨Nat.zero_le _, rfl⟩ ⟨rfl, rfl, rfl, rfl, rfl, trivial⟩ rfl trivial rfl rfl ?_
  intro i ⟨hi, hno⟩ ih
  rw [hno]
  rw [hno] at ih
  refine g_run Tk Tryd.func187 ?_
  first | refine g_cnd Tk Tryd.func187 rfl (fun h1 => ?_) (fun h1 => ?_) | refine g_know Tk Tryd.func187 rfl (fun h1 => ?_) (fun h1 => ?_) | refine s_know Tk (fun h1 => ?_) (fun h1 => ?_)
  · have h1 : i < l.length := by simpa using h1
    have hd : l.drop i = l[i] :: l.drop (i + 1) := (List.drop_eq_getElem_cons h1)
    first | refine g_need Tk Tryd.func187 (by omega) ?_ | refine s_need Tk (by omega) ?_
    first | refine g_elem Tk Tryd.func187 (get_mapZ (f := fun x => [intsI x]) h1) ?_ | refine s_elem Tk (get_mapZ (f := fun x => [intsI x]) h1) ?_
    first | refine g_call Tk Tryd.func187 (hp l[i] (List.getElem_mem h1)) rfl rfl rfl rfl rfl ?_ | refine s_callq Tk (fun _ => hp l[i] (List.getElem_mem h1)) rfl rfl rfl ?_
    first | refine g_cnd Tk Tryd.func187 rfl (fun h2 => ?_) (fun h2 => ?_) | refine g_know Tk Tryd.func187 rfl (fun h2 => ?_) (fun h2 => ?_) | refine s_know Tk (fun h2 => ?_) (fun h2 => ?_)
    · refine g_ret Tk (r := ii _) rfl rfl rfl trivial rfl rfl ?_
      rw [hd]
      simp only [findIx]
      rw [if_pos h2]
    · refine g_loop ?_
      refine ih (i + 1) _ _ ⟨h1, ?_⟩ (by omega) ⟨rfl, rfl, rfl, rfl, congrArg ii (wsucc h1 hl), trivial⟩ rfl trivial rfl rfl
      rw [hd]
      simp only [findIx]
      rw [if_neg (by rw [h2]; simp)]
  · have h1 : l.length ≤ i := by simpa using h1
    refine g_ret Tk (r := ii _) rfl rfl rfl trivial rfl rfl ?_
    rw [List.drop_eq_nil_of_le h1]
    rfl
theorem containsFunc170c (O : List Heap) (l : List (List Int)) (f : Nat) (d n1 n2 n3 : Nat) (p : (List Int) → Bool) (hl : l.length ≤ max63) (hp : ∀ x ∈ l, ASpec Tryd.prog f [ints x, .own (d + 2) n1 0 0, .own (d + 2) n2 0 0, .own (d + 2) n3 0 0] ([] :: [] :: O) (bb (p x)) [] ([] :: [] :: O)) :
    ASpec Tryd.prog 170 [intss l, .fn (.func f) [] [.own d n1 0 0, .own d n2 0 0, .own d n3 0 0]] O (bb (l.any p)) [] O := by
  refine aspec_intro Tk Tryd.func170 rfl Tryd.call170 Tryd.ntmps170 (Nat.le_of_ble_eq_true rfl) fun E => ?_
  refine g_run Tk Tryd.func170 ?_
  first | refine g_call Tk Tryd.func170 (indexFunc187c _ l f (d + 1) n1 n2 n3 p hl hp) rfl rfl rfl rfl rfl ?_ | refine s_callq Tk (fun _ => indexFunc187c _ l f (d + 1) n1 n2 n3 p hl hp) rfl rfl rfl ?_
  refine g_ret Tk (r := bb _) rfl rfl rfl trivial rfl rfl ?_
  exact congrArg bb (findIx_any p l 0)
theorem indexFunc176 (O : List Heap) (l : List Bx) (f : Nat) (d nm : Nat) (p : Bx → Bool) (hl : l.length ≤ max63) (hp : ∀ x ∈ l, ASpec Tryd.prog f [bxD x, .own (d + 1) nm 0 0] ([] :: O) (bb (p x)) [] ([] :: O)) :
    ASpec Tryd.prog 176 [bxs l, .fn (.func f) [] [.own d nm 0 0]] O (ii (findIx p l 0)) [] O := by
  refine aspec_intro Tk Tryd.func176 rfl Tryd.call176 Tryd.ntmps176 (Nat.le_of_ble_eq_true rfl) fun E => ?_
  refine g_run Tk Tryd.func176 ?_
  refine g_loop ?_
  refine rch_loop2 (fun i : Nat => [(0, bxs l), (1, .fn (.func f) [] [.own (d + 1) nm 0 0]), (6, bxs l), (7, ii l.length), (8, ii i)]) (fun _ => []) (fun _ => O) 19 (fun i => i ≤ l.length ∧ findIx p l 0 = findIx p (l.drop i) i) (fun i => l.length - i) 0 ⟨Nat.zero_le _, rfl⟩ ⟨rfl, rfl, rfl, rfl, rfl, trivial⟩ rfl trivial rfl rfl ?_
  intro i ⟨hi, hno⟩ ih
  rw [hno]
  rw [hno] at ih
  refine g_run Tk Tryd.func176 ?_
  first | refine g_cnd Tk Tryd.func176 rfl (fun h1 => ?_) (fun h1 => ?_) | refine g_know Tk Tryd.func176 rfl (fun h1 => ?_) (fun h1 => ?_) | refine s_know Tk (fun h1 => ?_) (fun h1 => ?_)
  · have h1 : i < l.length := by simpa using h1
    have hd : l.drop i = l[i] :: l.drop (i + 1) := (List.drop_eq_getElem_cons h1)
    first | refine g_need Tk Tryd.func176 (by omega) ?_ | refine s_need Tk (by omega) ?_
    first | refine g_elem Tk Tryd.func176 (get_mapZ (f := bxI) h1) ?_ | refine s_elem Tk (get_mapZ (f := bxI) h1) ?_
    first | refine g_call Tk Tryd.func176 (hp l[i] (List.getElem_mem h1)) rfl rfl rfl rfl rfl ?_ | refine s_callq Tk (fun _ => hp l[i] (List.getElem_mem h1)) rfl rfl rfl ?_
    first | refine g_cnd Tk Tryd.func176 rfl (fun h2 => ?_) (fun h2 => ?_) | refine g_know Tk Tryd.func176 rfl (fun h2 => ?_) (fun h2 => ?_) | refine s_know Tk (fun h2 => ?_) (fun h2 => ?_)
    · refine g_ret Tk (r := ii _) rfl rfl rfl trivial rfl rfl ?_
      rw [hd]
      simp only [findIx]
      rw [if_pos h2]
    · refine g_loop ?_
      refine ih (i + 1) _ _ ⟨h1, ?_⟩ (by omega) ⟨rfl, rfl, rfl, rfl, congrArg ii (wsucc h1 hl), trivial⟩ rfl trivial rfl rfl
      rw [hd]
      simp only [findIx]
      rw [if_neg (by rw [h2]; simp)]
  · have h1 : l.length ≤ i := by simpa using h1
    refine g_ret Tk (r := ii _) rfl rfl rfl trivial rfl rfl ?_
    rw [List.drop_eq_nil_of_le h1]
    rfl
theorem containsFunc150 (O : List Heap) (l : List Bx) (f : Nat) (d nm : Nat) (p : Bx → Bool) (hl : l.length ≤ max63) (hp : ∀ x ∈ l, ASpec Tryd.prog f [bxD x, .own (d + 2) nm 0 0] ([] :: [] :: O) (bb (p x)) [] ([] :: [] :: O)) :
    ASpec Tryd.prog 150 [bxs l, .fn (.func f) [] [.own d nm 0 0]] O (bb (l.any p)) [] O := by
  refine aspec_intro Tk Tryd.func150 rfl Tryd.call150 Tryd.ntmps150 (Nat.le_of_ble_eq_true rfl) fun E => ?_
  refine g_run Tk Tryd.func150 ?_
  first | refine g_call Tk Tryd.func150 (indexFunc176 _ l f (d + 1) nm p hl hp) rfl rfl rfl rfl rfl ?_ | refine s_callq Tk (fun _ => indexFunc176 _ l f (d + 1) nm p hl hp) rfl rfl rfl ?_
  refine g_ret Tk (r := bb _) rfl rfl rfl trivial rfl rfl ?_
  exact congrArg bb (findIx_any p l 0)

theorem in151 (O : List Heap) (b : Bx) (v : List Int) (d nm : Nat) (ho : objAt O d nm = some (.box [ints v])) (h1 : v.length ≤ b.low.length) (h2 : v.length ≤ b.high.length) (hl : v.length ≤ max63) : ASpec Tryd.prog 151 [bxD b, .own d nm 0 0] O (bb (b.has v)) [] O := by
  refine aspec_intro Tk Tryd.func151 rfl Tryd.call151 Tryd.ntmps151 (Nat.le_of_ble_eq_true rfl) fun E => ?_
  refine g_run Tk Tryd.func151 ?_
  first | refine g_obj Tk Tryd.func151 (up_obj ho) ?_ | refine s_obj Tk (up_obj ho) ?_
  first | refine g_call Tk Tryd.func151 (contains152 _ b v h1 h2 hl) rfl rfl rfl rfl rfl ?_ | refine s_callq Tk (fun _ => contains152 _ b v h1 h2 hl) rfl rfl rfl ?_
  refine g_ret Tk (r := bb _) rfl rfl rfl trivial rfl rfl ?_
  rfl
theorem in94 (O : List Heap) (l : List Bx) (v : List Int) (hll : l.length ≤ max63) (hb : ∀ b ∈ l, v.length ≤ b.low.length ∧ v.length ≤ b.high.length) (hl : v.length ≤ max63) : ASpec Tryd.prog 94 [bxs l, ints v] O (bb (inBs l v)) [] O := by
  refine aspec_intro Tk Tryd.func94 rfl Tryd.call94 Tryd.ntmps94 (Nat.le_of_ble_eq_true rfl) fun E => ?_
  refine g_run Tk Tryd.func94 ?_
  first | refine g_call Tk Tryd.func94 (containsFunc150 _ l 151 0 3 (fun b => b.has v) hll (fun b hm => in151 _ b v 2 3 rfl (hb b hm).1 (hb b hm).2 hl)) rfl rfl rfl rfl rfl ?_ | refine s_callq Tk (fun _ => containsFunc150 _ l 151 0 3 (fun b => b.has v) hll (fun b hm => in151 _ b v 2 3 rfl (hb b hm).1 (hb b hm).2 hl)) rfl rfl rfl ?_
  refine g_ret Tk (r := bb _) rfl rfl rfl trivial rfl rfl ?_
  rfl
theorem free186 (O : List Heap) (l : List Vr) (dom needed refused : List (List Int)) (b : Bx) (d n1 n2 : Nat) (ho1 : objAt O d n1 = some (oints b.low)) (ho2 : objAt O d n2 = some (oints b.high)) (hr : refused.length ≤ max63) (hv : ∀ v ∈ refused, v.length ≤ b.low.length ∧ v.length ≤ b.high.length ∧ v.length ≤ max63) :
    ASpec Tryd.prog 186 [.agg [vrs l, intss dom, intss needed, intss refused], .agg [.osl d n1, .osl d n2]] O (bb (freeR refused b)) [] O := by
  refine aspec_intro Tk Tryd.func186 rfl Tryd.call186 Tryd.ntmps186 (Nat.le_of_ble_eq_true rfl) fun E => ?_
  refine g_run Tk Tryd.func186 ?_
  first | refine g_call Tk Tryd.func186 (containsFunc170a _ refused 152 (d + 1) n1 n2 (fun v => b.has v) hr (fun v hm => contains152o _ b v (d + 1 + 2) n1 n2 (up_obj (up_obj (up_obj ho1))) (up_obj (up_obj (up_obj ho2))) (hv v hm).1 (hv v hm).2.1 (hv v hm).2.2)) rfl rfl rfl rfl rfl ?_ | refine s_callq Tk (fun _ => containsFunc170a _ refused 152 (d + 1) n1 n2 (fun v => b.has v) hr (fun v hm => contains152o _ b v (d + 1 + 2) n1 n2 (up_obj (up_obj (up_obj ho1))) (up_obj (up_obj (up_obj ho2))) (hv v hm).1 (hv v hm).2.1 (hv v hm).2.2)) rfl rfl rfl ?_
  refine g_ret Tk (r := bb _) rfl rfl rfl trivial rfl rfl ?_
  rfl
end Go.AI


/- Growing a box. -/
namespace Go.AI
open Go.Proofs
set_option maxRecDepth 20000
theorem oints_zero (l : List Int) : Ob.arr 3 1 (0 + l.length) ([] ++ l.map fun x => [vi x]) true = oints l := by simp
theorem oints_set (l : List Int) (i : Nat) (x : Int) : Ob.arr 3 1 l.length ((l.map fun x => [vi x]).set i [vi x]) true = oints (l.set i x) := by simp [List.map_set]
set_option maxHeartbeats 4000000 in
theorem grow167 (O : List Heap) (l : List Vr) (dom needed refused : List (List Int)) (v : List Int) (hl : l.length ≤ 16) (hb : ∀ a ∈ l, -65536 ≤ a.low ∧ a.high ≤ 65536) (hvl : v.length = l.length) (hvb : ∀ j, -65536 ≤ v.getD j 0 ∧ v.getD j 0 ≤ 65536) (hr : refused.length ≤ max63) (hrl : ∀ w ∈ refused, w.length = l.length) :
    ASpec Tryd.prog 167 [.agg [vrs l, intss dom, intss needed, intss refused], ints v] O (bxD (growVs (freeR refused) l 0 ⟨v, v⟩)) [] O := by
  have hfree := fun (O : List Heap) (b : Bx) (d n1 n2 : Nat) (e1 : b.low.length = l.length) (e2 : b.high.length = l.length) (ho1 : objAt O d n1 = some (oints b.low)) (ho2 : objAt O d n2 = some (oints b.high)) => free186 O l dom needed refused b d n1 n2 ho1 ho2 hr (fun w hw => by have := hrl w hw; simp only [max63]; omega)
  have hR0 : growVs (freeR refused) l 0 ⟨v, v⟩ = growVs (freeR refused) (l.drop 0) 0 ⟨v, v⟩ := rfl
  generalize growVs (freeR refused) l 0 ⟨v, v⟩ = R at *
  refine aspec_stop [7, 11] Tk Tryd.func167 rfl Tryd.call167 Tryd.ntmps167 (Nat.le_of_ble_eq_true rfl) fun E => ?_
  refine g_run Tk Tryd.func167 ?_
  first | refine g_call Tk Tryd.func167 (clone57 9 _ v (by simp only [big]; omega)) rfl rfl rfl rfl rfl ?_ | refine s_callq Tk (fun _ => clone57 9 _ v (by simp only [big]; omega)) rfl rfl rfl ?_
  first | refine g_call Tk Tryd.func167 (clone57 11 _ v (by simp only [big]; omega)) rfl rfl rfl rfl rfl ?_ | refine s_callq Tk (fun _ => clone57 11 _ v (by simp only [big]; omega)) rfl rfl rfl ?_
  refine g_loop ?_
  refine rch_loop2 (fun x : Nat × Bx => [(2, .own 0 2 0 0), (4, .own 0 4 0 0), (5, .own 0 5 0 0), (14, vrs l), (15, ii l.length), (16, ii x.1)]) (fun x => [(2, .box [vrs l, intss dom, intss needed, intss refused]), (4, .box [.i (.v (.slice none 0 0)), .i (.v (.slice none 0 0))]), (5, .box [.osl 0 9, .osl 0 11]), (9, oints x.2.low), (11, oints x.2.high)]) (fun _ => O) 75
    (fun x => x.1 ≤ l.length ∧ x.2.low.length = l.length ∧ x.2.high.length = l.length ∧ (∀ j, -65536 ≤ x.2.low.getD j 0 ∧ x.2.low.getD j 0 ≤ 65536) ∧ (∀ j, -65536 ≤ x.2.high.getD j 0 ∧ x.2.high.getD j 0 ≤ 65536) ∧ R = growVs (freeR refused) (l.drop x.1) x.1 x.2) (fun x => l.length - x.1) (0, ⟨v, v⟩)
    ⟨Nat.zero_le _, hvl, hvl, hvb, hvb, hR0⟩ ⟨rfl, rfl, rfl, rfl, rfl, rfl, trivial⟩ rfl ⟨rfl, rfl, rfl, rfl, rfl, trivial⟩ rfl rfl ?_
  clear hR0
  rintro ⟨i, ⟨lo, hi⟩⟩ ⟨hi', hlo, hhi, hbl, hbh, hno⟩ ih
  simp only at hi' hlo hhi hbl hbh hno
  refine g_run Tk Tryd.func167 ?_
  first | refine g_cnd Tk Tryd.func167 rfl (fun g1 => ?_) (fun g1 => ?_) | refine g_know Tk Tryd.func167 rfl (fun g1 => ?_) (fun g1 => ?_) | refine s_know Tk (fun g1 => ?_) (fun g1 => ?_)
  · have h1 : i < l.length := by simpa using g1
    clear g1
    have hg : (l.map vrI)[(i : Int).toNat]? = some (vrI l[i]) := get_mapZ h1
    have hd : l.drop i = l[i] :: l.drop (i + 1) := List.drop_eq_getElem_cons h1
    have hbi := hb _ (List.getElem_mem h1)
    rw [hd] at hno
    simp only [growVs, growV] at hno
    generalize l[i] = va at *
    obtain ⟨nm, vl, vh, vi'⟩ := va
    simp only at hno hbi
    first | refine g_need Tk Tryd.func167 (by exact ⟨by omega, by show (i : Int) < (l.length : Int); omega⟩) ?_ | refine s_need Tk (by exact ⟨by omega, by show (i : Int) < (l.length : Int); omega⟩) ?_
    first | refine g_elem Tk Tryd.func167 (hg) ?_ | refine s_elem Tk (hg) ?_
    let n0 := (lo.getD i 0 - vl).toNat
    apply join_q (P := fun b : Bx => b.low.length = l.length ∧ b.high.length = l.length ∧ (∀ j, -65536 ≤ b.low.getD j 0 ∧ b.low.getD j 0 ≤ 65536) ∧ (∀ j, -65536 ≤ b.high.getD j 0 ∧ b.high.getD j 0 ≤ 65536) ∧ R = growVs (freeR refused) (l.drop (i + 1)) (i + 1) (upR (freeR refused) i vh (vh - b.high.getD i 0).toNat b))
      (s6 := fun b : Bx => { σ := [(2, .own 0 2 0 0), (4, .own 0 4 0 0), (5, .own 0 5 0 0), (14, vrs l), (15, ii l.length), (16, ii i), (6, ii i), (7, .own 0 7 0 0)], S := [(2, .box [vrs l, intss dom, intss needed, intss refused]), (4, .box [.i (.v (.slice none 0 0)), .i (.v (.slice none 0 0))]), (5, .box [.osl 0 9, .osl 0 11]), (9, oints b.low), (11, oints b.high), (7, .box [.i (strI nm), ii vl, ii vh, ii vi'])] :: O, n := 75 })
    · intro J
      refine g_loop ?_
      refine rch_loop2 (fun b : Bx => [(2, .own 0 2 0 0), (4, .own 0 4 0 0), (5, .own 0 5 0 0), (14, vrs l), (15, ii l.length), (16, ii i), (6, ii i), (7, .own 0 7 0 0)]) (fun b => [(2, .box [vrs l, intss dom, intss needed, intss refused]), (4, .box [.i (.v (.slice none 0 0)), .i (.v (.slice none 0 0))]), (5, .box [.osl 0 9, .osl 0 11]), (9, oints b.low), (11, oints b.high), (7, .box [.i (strI nm), ii vl, ii vh, ii vi'])]) (fun _ => O) 75
        (fun b => b.low.length = l.length ∧ b.high.length = l.length ∧ (∀ j, -65536 ≤ b.low.getD j 0 ∧ b.low.getD j 0 ≤ 65536) ∧ (∀ j, -65536 ≤ b.high.getD j 0 ∧ b.high.getD j 0 ≤ 65536) ∧ downR (freeR refused) i vl n0 ⟨lo, hi⟩ = downR (freeR refused) i vl (b.low.getD i 0 - vl).toNat b) (fun b => (b.low.getD i 0 - vl).toNat) ⟨lo, hi⟩
        ⟨hlo, hhi, hbl, hbh, rfl⟩ ⟨rfl, rfl, rfl, rfl, rfl, rfl, rfl, rfl, trivial⟩ rfl ⟨rfl, rfl, rfl, rfl, rfl, rfl, trivial⟩ rfl rfl ?_
      rintro ⟨lo', hi2⟩ ⟨hlo, hhi, hbl, hbh, hdn⟩ ih2
      simp only at hlo hhi hbl hbh hdn
      have hgl : (lo'.map fun x => [vi x])[(i : Int).toNat]? = some [vi (lo'.getD i 0)] := by
        rw [get_mapZ (f := fun x => [vi x]) (show i < lo'.length by omega), List.getD_eq_getElem?_getD, List.getElem?_eq_getElem (show i < lo'.length by omega)]; rfl
      have hxb := hbl i
      generalize hx : lo'.getD i 0 = x at *
      refine g_run Tk Tryd.func167 ?_
      refine g_drawn Tk Tryd.func167 mixedT rfl ?_
      first | refine g_need Tk Tryd.func167 (by exact ⟨by omega, by show (i : Int) < (lo'.length : Int); omega⟩) ?_ | refine s_need Tk (by exact ⟨by omega, by show (i : Int) < (lo'.length : Int); omega⟩) ?_
      first | refine g_elem Tk Tryd.func167 (hgl) ?_ | refine s_elem Tk (hgl) ?_
      refine e_done Tk Tryd.func167 (by kernel_rfl) ?_
      first | refine g_cnd Tk Tryd.func167 rfl (fun g2 => ?_) (fun g2 => ?_) | refine g_know Tk Tryd.func167 rfl (fun g2 => ?_) (fun g2 => ?_) | refine s_know Tk (fun g2 => ?_) (fun g2 => ?_)
      · have h2 : vl < x := of_decide_eq_true g2
        clear g2
        rw [show (x - vl).toNat = (x - 1 - vl).toNat + 1 by omega] at hdn
        simp only [downR, hx] at hdn
        rw [if_pos (by omega)] at hdn
        have hw : IntKind.i64.wrap (x - 1) = x - 1 := w64 (by omega) (by omega)
        first | refine g_need Tk Tryd.func167 (by exact ⟨by omega, by show (i : Int) < (lo'.length : Int); omega⟩) ?_ | refine s_need Tk (by exact ⟨by omega, by show (i : Int) < (lo'.length : Int); omega⟩) ?_
        first | refine g_elem Tk Tryd.func167 (hgl) ?_ | refine s_elem Tk (hgl) ?_
        first | refine g_need Tk Tryd.func167 (by exact ⟨by omega, by show (i : Int) < (lo'.length : Int); omega⟩) ?_ | refine s_need Tk (by exact ⟨by omega, by show (i : Int) < (lo'.length : Int); omega⟩) ?_
        refine g_stop ?_
        refine rch_meet (l := [(2, .own 0 2 0 0), (4, .own 0 4 0 0), (5, .own 0 5 0 0), (14, vrs l), (15, ii l.length), (16, ii i), (6, ii i), (7, .own 0 7 0 0)]) (Hv := [(2, .box [vrs l, intss dom, intss needed, intss refused]), (4, .box [.i (.v (.slice none 0 0)), .i (.v (.slice none 0 0))]), (5, .box [.osl 0 9, .osl 0 11]), (9, oints (lo'.set i (x - 1))), (11, oints hi2), (7, .box [.i (strI nm), ii vl, ii vh, ii vi'])]) (n := 75) ?_ ⟨rfl, rfl, rfl, rfl, rfl, rfl, rfl, rfl, trivial⟩ rfl ⟨rfl, rfl, rfl, by rw [hw]; exact congrArg some (oints_set lo' i (x - 1)), rfl, rfl, trivial⟩ rfl rfl
        refine g_run Tk Tryd.func167 ?_
        refine g_go Tk Tryd.func167 ?_
        first | refine g_call Tk Tryd.func167 (hfree _ ⟨lo'.set i (x - 1), hi2⟩ 0 9 11 (by simpa using hlo) hhi rfl rfl) rfl rfl rfl rfl rfl ?_ | refine s_callq Tk (fun _ => hfree _ ⟨lo'.set i (x - 1), hi2⟩ 0 9 11 (by simpa using hlo) hhi rfl rfl) rfl rfl rfl ?_
        have hlo2 : (lo'.set i (x - 1)).length = l.length := by simpa using hlo
        have hbl2 : ∀ j, -65536 ≤ (lo'.set i (x - 1)).getD j 0 ∧ (lo'.set i (x - 1)).getD j 0 ≤ 65536 := fun j => by
          rw [getD_set]
          split
          · omega
          · exact hbl j
        have hgx : (lo'.set i (x - 1)).getD i 0 = x - 1 := by rw [getD_set, if_pos ⟨rfl, by omega⟩]
        first | refine g_cnd Tk Tryd.func167 rfl (fun g3 => ?_) (fun g3 => ?_) | refine g_know Tk Tryd.func167 rfl (fun g3 => ?_) (fun g3 => ?_) | refine s_know Tk (fun g3 => ?_) (fun g3 => ?_)
        · have h3 : freeR refused ⟨lo'.set i (x - 1), hi2⟩ = false := notT g3
          rw [if_neg (by rw [h3]; simp)] at hdn
          have hw2 : IntKind.i64.wrap (x - 1 + 1) = x := by rw [w64 (by omega) (by omega)]; omega
          have hgl2 : ((lo'.set i (x - 1)).map fun x => [vi x])[(i : Int).toNat]? = some [vi (x - 1)] := by
            rw [get_mapZ (f := fun x => [vi x]) (show i < (lo'.set i (x - 1)).length by omega)]; simp
          have hback : (lo'.set i (x - 1)).set i x = lo' := by
            rw [List.set_set]
            apply List.ext_getElem? 
            intro j
            rw [List.getElem?_set]
            split
            · rename_i e
              subst e
              rw [if_pos (by omega), ← hx, List.getD_eq_getElem?_getD, List.getElem?_eq_getElem (show i < lo'.length by omega)]
              rfl
            · rfl
          first | refine g_need Tk Tryd.func167 (by exact ⟨by omega, by show (i : Int) < ((lo'.set i (x - 1)).length : Int); omega⟩) ?_ | refine s_need Tk (by exact ⟨by omega, by show (i : Int) < ((lo'.set i (x - 1)).length : Int); omega⟩) ?_
          first | refine g_elem Tk Tryd.func167 (hgl2) ?_ | refine s_elem Tk (hgl2) ?_
          first | refine g_need Tk Tryd.func167 (by exact ⟨by omega, by show (i : Int) < ((lo'.set i (x - 1)).length : Int); omega⟩) ?_ | refine s_need Tk (by exact ⟨by omega, by show (i : Int) < ((lo'.set i (x - 1)).length : Int); omega⟩) ?_
          refine g_loop ?_
          refine rch_meet (J ⟨lo', hi2⟩ ⟨hlo, hhi, hbl, hbh, ?_⟩) ⟨rfl, rfl, rfl, rfl, rfl, rfl, rfl, rfl, trivial⟩ rfl ⟨rfl, rfl, rfl, by rw [hw2]; exact congrArg some ((oints_set (lo'.set i (x - 1)) i x).trans (congrArg oints hback)), rfl, rfl, trivial⟩ rfl rfl
          rw [hno, hdn]
        · have h3 : freeR refused ⟨lo'.set i (x - 1), hi2⟩ = true := notF g3
          rw [if_pos h3] at hdn
          refine g_loop ?_
          refine ih2 ⟨lo'.set i (x - 1), hi2⟩ _ _ ⟨hlo2, hhi, hbl2, hbh, by simp only [hgx]; exact hdn⟩ (by simp only [hgx, hx]; omega) ⟨rfl, rfl, rfl, rfl, rfl, rfl, rfl, rfl, trivial⟩ rfl ⟨rfl, rfl, rfl, rfl, rfl, rfl, trivial⟩ rfl rfl
      · have h2 : ¬ vl < x := of_decide_eq_false g2
        rw [show (x - vl).toNat = 0 by omega] at hdn
        simp only [downR] at hdn
        refine g_loop ?_
        refine rch_meet (J ⟨lo', hi2⟩ ⟨hlo, hhi, hbl, hbh, ?_⟩) ⟨rfl, rfl, rfl, rfl, rfl, rfl, rfl, rfl, trivial⟩ rfl ⟨rfl, rfl, rfl, rfl, rfl, rfl, trivial⟩ rfl rfl
        rw [hno, hdn]
    rintro ⟨lo1, hi1⟩ ⟨hlo, hhi, hbl, hbh, hno⟩
    simp only at hlo hhi hbl hbh hno
    refine rch_loop2 (fun b : Bx => [(2, .own 0 2 0 0), (4, .own 0 4 0 0), (5, .own 0 5 0 0), (14, vrs l), (15, ii l.length), (16, ii i), (6, ii i), (7, .own 0 7 0 0)]) (fun b => [(2, .box [vrs l, intss dom, intss needed, intss refused]), (4, .box [.i (.v (.slice none 0 0)), .i (.v (.slice none 0 0))]), (5, .box [.osl 0 9, .osl 0 11]), (9, oints b.low), (11, oints b.high), (7, .box [.i (strI nm), ii vl, ii vh, ii vi'])]) (fun _ => O) 75
        (fun b => b.low.length = l.length ∧ b.high.length = l.length ∧ (∀ j, -65536 ≤ b.low.getD j 0 ∧ b.low.getD j 0 ≤ 65536) ∧ (∀ j, -65536 ≤ b.high.getD j 0 ∧ b.high.getD j 0 ≤ 65536) ∧ upR (freeR refused) i vh (vh - hi1.getD i 0).toNat ⟨lo1, hi1⟩ = upR (freeR refused) i vh (vh - b.high.getD i 0).toNat b) (fun b => (vh - b.high.getD i 0).toNat) ⟨lo1, hi1⟩
        ⟨hlo, hhi, hbl, hbh, rfl⟩ ⟨rfl, rfl, rfl, rfl, rfl, rfl, rfl, rfl, trivial⟩ rfl ⟨rfl, rfl, rfl, rfl, rfl, rfl, trivial⟩ rfl rfl ?_
    rintro ⟨lo2, hi'⟩ ⟨hlo, hhi, hbl, hbh, hdn⟩ ih2
    simp only at hlo hhi hbl hbh hdn
    have hgl : (hi'.map fun x => [vi x])[(i : Int).toNat]? = some [vi (hi'.getD i 0)] := by
      rw [get_mapZ (f := fun x => [vi x]) (show i < hi'.length by omega), List.getD_eq_getElem?_getD, List.getElem?_eq_getElem (show i < hi'.length by omega)]; rfl
    have hxb := hbh i
    generalize hx : hi'.getD i 0 = x at *
    refine g_run Tk Tryd.func167 ?_
    refine g_drawn Tk Tryd.func167 mixedT rfl ?_
    first | refine g_need Tk Tryd.func167 (by exact ⟨by omega, by show (i : Int) < (hi'.length : Int); omega⟩) ?_ | refine s_need Tk (by exact ⟨by omega, by show (i : Int) < (hi'.length : Int); omega⟩) ?_
    first | refine g_elem Tk Tryd.func167 (hgl) ?_ | refine s_elem Tk (hgl) ?_
    refine e_done Tk Tryd.func167 (by kernel_rfl) ?_
    first | refine g_cnd Tk Tryd.func167 rfl (fun g2 => ?_) (fun g2 => ?_) | refine g_know Tk Tryd.func167 rfl (fun g2 => ?_) (fun g2 => ?_) | refine s_know Tk (fun g2 => ?_) (fun g2 => ?_)
    · have h2 : x < vh := of_decide_eq_true g2
      clear g2
      rw [show (vh - x).toNat = (vh - (x + 1)).toNat + 1 by omega] at hdn
      simp only [upR, hx] at hdn
      rw [if_pos (by omega)] at hdn
      have hw : IntKind.i64.wrap (x + 1) = x + 1 := w64 (by omega) (by omega)
      first | refine g_need Tk Tryd.func167 (by exact ⟨by omega, by show (i : Int) < (hi'.length : Int); omega⟩) ?_ | refine s_need Tk (by exact ⟨by omega, by show (i : Int) < (hi'.length : Int); omega⟩) ?_
      first | refine g_elem Tk Tryd.func167 (hgl) ?_ | refine s_elem Tk (hgl) ?_
      first | refine g_need Tk Tryd.func167 (by exact ⟨by omega, by show (i : Int) < (hi'.length : Int); omega⟩) ?_ | refine s_need Tk (by exact ⟨by omega, by show (i : Int) < (hi'.length : Int); omega⟩) ?_
      refine g_stop ?_
      refine rch_meet (l := [(2, .own 0 2 0 0), (4, .own 0 4 0 0), (5, .own 0 5 0 0), (14, vrs l), (15, ii l.length), (16, ii i), (6, ii i), (7, .own 0 7 0 0)]) (Hv := [(2, .box [vrs l, intss dom, intss needed, intss refused]), (4, .box [.i (.v (.slice none 0 0)), .i (.v (.slice none 0 0))]), (5, .box [.osl 0 9, .osl 0 11]), (9, oints lo2), (11, oints (hi'.set i (x + 1))), (7, .box [.i (strI nm), ii vl, ii vh, ii vi'])]) (n := 75) ?_ ⟨rfl, rfl, rfl, rfl, rfl, rfl, rfl, rfl, trivial⟩ rfl ⟨rfl, rfl, rfl, rfl, by rw [hw]; exact congrArg some (oints_set hi' i (x + 1)), rfl, trivial⟩ rfl rfl
      refine g_run Tk Tryd.func167 ?_
      refine g_go Tk Tryd.func167 ?_
      first | refine g_call Tk Tryd.func167 (hfree _ ⟨lo2, hi'.set i (x + 1)⟩ 0 9 11 hlo (by simpa using hhi) rfl rfl) rfl rfl rfl rfl rfl ?_ | refine s_callq Tk (fun _ => hfree _ ⟨lo2, hi'.set i (x + 1)⟩ 0 9 11 hlo (by simpa using hhi) rfl rfl) rfl rfl rfl ?_
      have hhi2 : (hi'.set i (x + 1)).length = l.length := by simpa using hhi
      have hbh2 : ∀ j, -65536 ≤ (hi'.set i (x + 1)).getD j 0 ∧ (hi'.set i (x + 1)).getD j 0 ≤ 65536 := fun j => by
        rw [getD_set]
        split
        · omega
        · exact hbh j
      have hgx : (hi'.set i (x + 1)).getD i 0 = x + 1 := by rw [getD_set, if_pos ⟨rfl, by omega⟩]
      first | refine g_cnd Tk Tryd.func167 rfl (fun g3 => ?_) (fun g3 => ?_) | refine g_know Tk Tryd.func167 rfl (fun g3 => ?_) (fun g3 => ?_) | refine s_know Tk (fun g3 => ?_) (fun g3 => ?_)
      · have h3 : freeR refused ⟨lo2, hi'.set i (x + 1)⟩ = false := notT g3
        rw [if_neg (by rw [h3]; simp)] at hdn
        have hw2 : IntKind.i64.wrap (x + 1 - 1) = x := by rw [w64 (by omega) (by omega)]; omega
        have hgl2 : ((hi'.set i (x + 1)).map fun x => [vi x])[(i : Int).toNat]? = some [vi (x + 1)] := by
          rw [get_mapZ (f := fun x => [vi x]) (show i < (hi'.set i (x + 1)).length by omega)]; simp
        have hback : (hi'.set i (x + 1)).set i x = hi' := by
          rw [List.set_set]
          apply List.ext_getElem?
          intro j
          rw [List.getElem?_set]
          split
          · rename_i e
            subst e
            rw [if_pos (by omega), ← hx, List.getD_eq_getElem?_getD, List.getElem?_eq_getElem (show i < hi'.length by omega)]
            rfl
          · rfl
        first | refine g_need Tk Tryd.func167 (by exact ⟨by omega, by show (i : Int) < ((hi'.set i (x + 1)).length : Int); omega⟩) ?_ | refine s_need Tk (by exact ⟨by omega, by show (i : Int) < ((hi'.set i (x + 1)).length : Int); omega⟩) ?_
        first | refine g_elem Tk Tryd.func167 (hgl2) ?_ | refine s_elem Tk (hgl2) ?_
        first | refine g_need Tk Tryd.func167 (by exact ⟨by omega, by show (i : Int) < ((hi'.set i (x + 1)).length : Int); omega⟩) ?_ | refine s_need Tk (by exact ⟨by omega, by show (i : Int) < ((hi'.set i (x + 1)).length : Int); omega⟩) ?_
        refine g_loop ?_
        refine ih (i + 1, ⟨lo2, hi'⟩) _ _ ⟨h1, hlo, hhi, hbl, hbh, ?_⟩ (by simp only; omega) ⟨rfl, rfl, rfl, rfl, rfl, congrArg ii (wsucc (n := 16) (by omega) (by decide)), trivial⟩ rfl ⟨rfl, rfl, rfl, rfl, by rw [hw2]; exact congrArg some ((oints_set (hi'.set i (x + 1)) i x).trans (congrArg oints hback)), trivial⟩ rfl rfl
        rw [hno, hdn]
      · have h3 : freeR refused ⟨lo2, hi'.set i (x + 1)⟩ = true := notF g3
        rw [if_pos h3] at hdn
        refine g_loop ?_
        refine ih2 ⟨lo2, hi'.set i (x + 1)⟩ _ _ ⟨hlo, hhi2, hbl, hbh2, by simp only [hgx]; exact hdn⟩ (by simp only [hgx, hx]; omega) ⟨rfl, rfl, rfl, rfl, rfl, rfl, rfl, rfl, trivial⟩ rfl ⟨rfl, rfl, rfl, rfl, rfl, rfl, trivial⟩ rfl rfl
    · have h2 : ¬ x < vh := of_decide_eq_false g2
      rw [show (vh - x).toNat = 0 by omega] at hdn
      simp only [upR] at hdn
      refine g_loop ?_
      refine ih (i + 1, ⟨lo2, hi'⟩) _ _ ⟨h1, hlo, hhi, hbl, hbh, ?_⟩ (by simp only; omega) ⟨rfl, rfl, rfl, rfl, rfl, congrArg ii (wsucc (n := 16) (by omega) (by decide)), trivial⟩ rfl ⟨rfl, rfl, rfl, rfl, rfl, trivial⟩ rfl rfl
      rw [hno, hdn]
  · have h1 : l.length ≤ i := by simpa using g1
    rw [List.drop_eq_nil_of_le h1] at hno
    simp only [growVs] at hno
    subst hno
    refine g_rwk (wk_freeze 9 rfl rfl) ?_
    refine g_rwk (wk_freeze 11 rfl rfl) ?_
    refine g_rwk (wk_imm rfl) ?_
    refine g_ret Tk (r := bxD ⟨lo, hi⟩) rfl rfl rfl trivial rfl rfl ?_
    rfl
end Go.AI


/- The law's own: within, permitted, grow. -/
namespace Go.AI
open Go.Proofs
set_option maxRecDepth 20000
theorem within28 (O : List Heap) (b : Bx) (v : List Int) (h1 : v.length ≤ b.low.length) (h2 : v.length ≤ b.high.length) (hl : v.length ≤ max63) : ASpec Tryd.prog 28 [bxD b, ints v] O (bb (b.has v)) [] O := by
  obtain ⟨lo, hi⟩ := b
  unfold Bx.has
  simp only at h1 h2 ⊢
  generalize hR : contB v lo hi = R
  refine aspec_intro Tk Tryd.func28 rfl Tryd.call28 Tryd.ntmps28 (Nat.le_of_ble_eq_true rfl) fun E => ?_
  refine g_run Tk Tryd.func28 ?_
  refine g_loop ?_
  refine rch_loop2 (fun i : Nat => [(1, ints v), (2, .own 0 2 0 0), (5, ii i)]) (fun i => [(2, .box [ints lo, ints hi])]) (fun _ => O) 34
    (fun i => i ≤ v.length ∧ contB (v.drop i) (lo.drop i) (hi.drop i) = R) (fun i => v.length - i) 0 ⟨Nat.zero_le _, hR⟩ ⟨rfl, rfl, rfl, trivial⟩ rfl ⟨rfl, trivial⟩ rfl rfl ?_
  rintro i ⟨hi', hno⟩ ih
  clear hR
  refine g_run Tk Tryd.func28 ?_
  first | refine g_cnd Tk Tryd.func28 rfl (fun g1 => ?_) (fun g1 => ?_) | refine g_know Tk Tryd.func28 rfl (fun g1 => ?_) (fun g1 => ?_) | refine s_know Tk (fun g1 => ?_) (fun g1 => ?_)
  · have h3 : i < v.length := by simpa using g1
    have gv : (v.map fun x => [vi x])[(i : Int).toNat]? = some [vi v[i]] := get_mapZ (f := fun x => [vi x]) h3
    have gl : (lo.map fun x => [vi x])[(i : Int).toNat]? = some [vi (lo[i]'(by omega))] := get_mapZ (f := fun x => [vi x]) (by omega)
    have gh : (hi.map fun x => [vi x])[(i : Int).toNat]? = some [vi (hi[i]'(by omega))] := get_mapZ (f := fun x => [vi x]) (by omega)
    have dv : v.drop i = v[i] :: v.drop (i + 1) := List.drop_eq_getElem_cons h3
    have dl : lo.drop i = (lo[i]'(by omega)) :: lo.drop (i + 1) := List.drop_eq_getElem_cons (by omega)
    have dh : hi.drop i = (hi[i]'(by omega)) :: hi.drop (i + 1) := List.drop_eq_getElem_cons (by omega)
    rw [dv, dl, dh] at hno
    simp only [contB] at hno
    clear dv dl dh
    generalize v[i] = x at *
    generalize lo[i]'(by omega) = a at *
    generalize hi[i]'(by omega) = c at *
    refine g_drawn Tk Tryd.func28 mixedT rfl ?_
    first | refine g_need Tk Tryd.func28 (by exact ⟨by omega, by show (i : Int) < (v.length : Int); omega⟩) ?_ | refine s_need Tk (by exact ⟨by omega, by show (i : Int) < (v.length : Int); omega⟩) ?_
    first | refine g_elem Tk Tryd.func28 (gv) ?_ | refine s_elem Tk (gv) ?_
    first | refine g_need Tk Tryd.func28 (by exact ⟨by omega, by show (i : Int) < (lo.length : Int); omega⟩) ?_ | refine s_need Tk (by exact ⟨by omega, by show (i : Int) < (lo.length : Int); omega⟩) ?_
    first | refine g_elem Tk Tryd.func28 (gl) ?_ | refine s_elem Tk (gl) ?_
    first | refine g_cnd Tk Tryd.func28 rfl (fun h4 => ?_) (fun h4 => ?_) | refine g_know Tk Tryd.func28 rfl (fun h4 => ?_) (fun h4 => ?_) | refine s_know Tk (fun h4 => ?_) (fun h4 => ?_)
    · have h4 : x < a := of_decide_eq_true h4
      have : R = false := by rw [← hno]; simp [h4]
      subst this
      refine e_done Tk Tryd.func28 (by kernel_rfl) ?_
      repeat (first | refine g_cnd Tk Tryd.func28 rfl (fun _ => ?_) (fun h => absurd h (by decide)) | refine g_cnd Tk Tryd.func28 rfl (fun h => absurd h (by decide)) (fun _ => ?_) | refine g_know Tk Tryd.func28 rfl (fun _ => ?_) (fun h => absurd h (by decide)) | refine g_know Tk Tryd.func28 rfl (fun h => absurd h (by decide)) (fun _ => ?_) | refine s_know Tk (fun _ => ?_) (fun h => absurd h (by decide)) | refine s_know Tk (fun h => absurd h (by decide)) (fun _ => ?_))
      refine g_ret Tk (r := bb false) rfl rfl rfl trivial rfl rfl ?_
      rfl
    have h4 : ¬ x < a := of_decide_eq_false h4
    first | refine g_need Tk Tryd.func28 (by exact ⟨by omega, by show (i : Int) < (v.length : Int); omega⟩) ?_ | refine s_need Tk (by exact ⟨by omega, by show (i : Int) < (v.length : Int); omega⟩) ?_
    first | refine g_elem Tk Tryd.func28 (gv) ?_ | refine s_elem Tk (gv) ?_
    first | refine g_need Tk Tryd.func28 (by exact ⟨by omega, by show (i : Int) < (hi.length : Int); omega⟩) ?_ | refine s_need Tk (by exact ⟨by omega, by show (i : Int) < (hi.length : Int); omega⟩) ?_
    first | refine g_elem Tk Tryd.func28 (gh) ?_ | refine s_elem Tk (gh) ?_
    refine e_done Tk Tryd.func28 (by kernel_rfl) ?_
    first | refine g_cnd Tk Tryd.func28 rfl (fun h5 => ?_) (fun h5 => ?_) | refine g_know Tk Tryd.func28 rfl (fun h5 => ?_) (fun h5 => ?_) | refine s_know Tk (fun h5 => ?_) (fun h5 => ?_)
    · have h5 : c < x := of_decide_eq_true h5
      have : R = false := by rw [← hno]; simp [h5]
      subst this
      refine g_ret Tk (r := bb false) rfl rfl rfl trivial rfl rfl ?_
      rfl
    have h5 : ¬ c < x := of_decide_eq_false h5
    have hno : contB (v.drop (i + 1)) (lo.drop (i + 1)) (hi.drop (i + 1)) = R := by rw [← hno]; simp [h4, h5]
    refine g_loop ?_
    exact ih (i + 1) _ _ ⟨h3, hno⟩ (by omega) ⟨rfl, rfl, congrArg ii (wsucc h3 hl), trivial⟩ rfl ⟨rfl, trivial⟩ rfl rfl
  · have h3 : v.length ≤ i := by simpa using g1
    rw [List.drop_eq_nil_of_le h3] at hno
    have : R = true := by rw [← hno]; cases lo.drop i <;> cases hi.drop i <;> rfl
    subst this
    refine g_ret Tk (r := bb true) rfl rfl rfl trivial rfl rfl ?_
    rfl
theorem within28o (O : List Heap) (b : Bx) (v : List Int) (d n1 n2 : Nat) (ho1 : objAt O d n1 = some (oints b.low)) (ho2 : objAt O d n2 = some (oints b.high)) (h1 : v.length ≤ b.low.length) (h2 : v.length ≤ b.high.length) (hl : v.length ≤ max63) : ASpec Tryd.prog 28 [.agg [.osl d n1, .osl d n2], ints v] O (bb (b.has v)) [] O := by
  obtain ⟨lo, hi⟩ := b
  unfold Bx.has
  simp only at h1 h2 ho1 ho2 ⊢
  have hO1 : ∀ H, objAt (H :: O) (d + 1) n1 = some (oints lo) := fun H => up_obj ho1
  have hO2 : ∀ H, objAt (H :: O) (d + 1) n2 = some (oints hi) := fun H => up_obj ho2
  generalize hR : contB v lo hi = R
  refine aspec_intro Tk Tryd.func28 rfl Tryd.call28 Tryd.ntmps28 (Nat.le_of_ble_eq_true rfl) fun E => ?_
  refine g_run Tk Tryd.func28 ?_
  refine g_loop ?_
  refine rch_loop2 (fun i : Nat => [(1, ints v), (2, .own 0 2 0 0), (5, ii i)]) (fun i => [(2, .box [.osl (d + 1) n1, .osl (d + 1) n2])]) (fun _ => O) 34
    (fun i => i ≤ v.length ∧ contB (v.drop i) (lo.drop i) (hi.drop i) = R) (fun i => v.length - i) 0 ⟨Nat.zero_le _, hR⟩ ⟨rfl, rfl, rfl, trivial⟩ rfl ⟨rfl, trivial⟩ rfl rfl ?_
  rintro i ⟨hi', hno⟩ ih
  clear hR
  refine g_run Tk Tryd.func28 ?_
  first | refine g_cnd Tk Tryd.func28 rfl (fun g1 => ?_) (fun g1 => ?_) | refine g_know Tk Tryd.func28 rfl (fun g1 => ?_) (fun g1 => ?_) | refine s_know Tk (fun g1 => ?_) (fun g1 => ?_)
  · have h3 : i < v.length := by simpa using g1
    have gv : (v.map fun x => [vi x])[(i : Int).toNat]? = some [vi v[i]] := get_mapZ (f := fun x => [vi x]) h3
    have gl : (lo.map fun x => [vi x])[(i : Int).toNat]? = some [vi (lo[i]'(by omega))] := get_mapZ (f := fun x => [vi x]) (by omega)
    have gh : (hi.map fun x => [vi x])[(i : Int).toNat]? = some [vi (hi[i]'(by omega))] := get_mapZ (f := fun x => [vi x]) (by omega)
    have dv : v.drop i = v[i] :: v.drop (i + 1) := List.drop_eq_getElem_cons h3
    have dl : lo.drop i = (lo[i]'(by omega)) :: lo.drop (i + 1) := List.drop_eq_getElem_cons (by omega)
    have dh : hi.drop i = (hi[i]'(by omega)) :: hi.drop (i + 1) := List.drop_eq_getElem_cons (by omega)
    rw [dv, dl, dh] at hno
    simp only [contB] at hno
    clear dv dl dh
    generalize v[i] = x at *
    generalize lo[i]'(by omega) = a at *
    generalize hi[i]'(by omega) = c at *
    refine g_drawn Tk Tryd.func28 mixedT rfl ?_
    first | refine g_need Tk Tryd.func28 (by exact ⟨by omega, by show (i : Int) < (v.length : Int); omega⟩) ?_ | refine s_need Tk (by exact ⟨by omega, by show (i : Int) < (v.length : Int); omega⟩) ?_
    first | refine g_elem Tk Tryd.func28 (gv) ?_ | refine s_elem Tk (gv) ?_
    first | refine g_obj Tk Tryd.func28 (hO1 [(2, .box [.osl (d + 1) n1, .osl (d + 1) n2])]) ?_ | refine s_obj Tk (hO1 [(2, .box [.osl (d + 1) n1, .osl (d + 1) n2])]) ?_
    first | refine g_need Tk Tryd.func28 (by exact ⟨by omega, by show (i : Int) < (lo.length : Int); omega⟩) ?_ | refine s_need Tk (by exact ⟨by omega, by show (i : Int) < (lo.length : Int); omega⟩) ?_
    first | refine g_obj Tk Tryd.func28 (hO1 [(2, .box [.osl (d + 1) n1, .osl (d + 1) n2])]) ?_ | refine s_obj Tk (hO1 [(2, .box [.osl (d + 1) n1, .osl (d + 1) n2])]) ?_
    first | refine g_elem Tk Tryd.func28 (gl) ?_ | refine s_elem Tk (gl) ?_
    first | refine g_cnd Tk Tryd.func28 rfl (fun h4 => ?_) (fun h4 => ?_) | refine g_know Tk Tryd.func28 rfl (fun h4 => ?_) (fun h4 => ?_) | refine s_know Tk (fun h4 => ?_) (fun h4 => ?_)
    · have h4 : x < a := of_decide_eq_true h4
      have : R = false := by rw [← hno]; simp [h4]
      subst this
      refine e_done Tk Tryd.func28 (by kernel_rfl) ?_
      repeat (first | refine g_cnd Tk Tryd.func28 rfl (fun _ => ?_) (fun h => absurd h (by decide)) | refine g_cnd Tk Tryd.func28 rfl (fun h => absurd h (by decide)) (fun _ => ?_) | refine g_know Tk Tryd.func28 rfl (fun _ => ?_) (fun h => absurd h (by decide)) | refine g_know Tk Tryd.func28 rfl (fun h => absurd h (by decide)) (fun _ => ?_) | refine s_know Tk (fun _ => ?_) (fun h => absurd h (by decide)) | refine s_know Tk (fun h => absurd h (by decide)) (fun _ => ?_))
      refine g_ret Tk (r := bb false) rfl rfl rfl trivial rfl rfl ?_
      rfl
    have h4 : ¬ x < a := of_decide_eq_false h4
    first | refine g_need Tk Tryd.func28 (by exact ⟨by omega, by show (i : Int) < (v.length : Int); omega⟩) ?_ | refine s_need Tk (by exact ⟨by omega, by show (i : Int) < (v.length : Int); omega⟩) ?_
    first | refine g_elem Tk Tryd.func28 (gv) ?_ | refine s_elem Tk (gv) ?_
    first | refine g_obj Tk Tryd.func28 (hO2 [(2, .box [.osl (d + 1) n1, .osl (d + 1) n2])]) ?_ | refine s_obj Tk (hO2 [(2, .box [.osl (d + 1) n1, .osl (d + 1) n2])]) ?_
    first | refine g_need Tk Tryd.func28 (by exact ⟨by omega, by show (i : Int) < (hi.length : Int); omega⟩) ?_ | refine s_need Tk (by exact ⟨by omega, by show (i : Int) < (hi.length : Int); omega⟩) ?_
    first | refine g_obj Tk Tryd.func28 (hO2 [(2, .box [.osl (d + 1) n1, .osl (d + 1) n2])]) ?_ | refine s_obj Tk (hO2 [(2, .box [.osl (d + 1) n1, .osl (d + 1) n2])]) ?_
    first | refine g_elem Tk Tryd.func28 (gh) ?_ | refine s_elem Tk (gh) ?_
    refine e_done Tk Tryd.func28 (by kernel_rfl) ?_
    first | refine g_cnd Tk Tryd.func28 rfl (fun h5 => ?_) (fun h5 => ?_) | refine g_know Tk Tryd.func28 rfl (fun h5 => ?_) (fun h5 => ?_) | refine s_know Tk (fun h5 => ?_) (fun h5 => ?_)
    · have h5 : c < x := of_decide_eq_true h5
      have : R = false := by rw [← hno]; simp [h5]
      subst this
      refine g_ret Tk (r := bb false) rfl rfl rfl trivial rfl rfl ?_
      rfl
    have h5 : ¬ c < x := of_decide_eq_false h5
    have hno : contB (v.drop (i + 1)) (lo.drop (i + 1)) (hi.drop (i + 1)) = R := by rw [← hno]; simp [h4, h5]
    refine g_loop ?_
    exact ih (i + 1) _ _ ⟨h3, hno⟩ (by omega) ⟨rfl, rfl, congrArg ii (wsucc h3 hl), trivial⟩ rfl ⟨rfl, trivial⟩ rfl rfl
  · have h3 : v.length ≤ i := by simpa using g1
    rw [List.drop_eq_nil_of_le h3] at hno
    have : R = true := by rw [← hno]; cases lo.drop i <;> cases hi.drop i <;> rfl
    subst this
    refine g_ret Tk (r := bb true) rfl rfl rfl trivial rfl rfl ?_
    rfl

def permR (b : Bx) : List (List Int) → List Bool → List Bool → Bool
  | d :: ds, t :: ts, c :: cs => if c then (if !t then (if b.has d then false else permR b ds ts cs) else permR b ds ts cs) else permR b ds ts cs
  | _, _, _ => true
theorem permR_free (b : Bx) : ∀ (all : List (List Int)) (t c : List Bool), permR b all t c = freeR (refusedR all t c) b
  | [], _, _ => rfl
  | _ :: _, [], _ => rfl
  | _ :: _, _ :: _, [] => rfl
  | d :: ds, t :: ts, c :: cs => by
    have ih := permR_free b ds ts cs
    unfold freeR at *
    simp only [permR, refusedR]
    cases c <;> cases t <;> simp [ih]
theorem permitted136 (O : List Heap) (all : List (List Int)) (t care : List Bool) (b : Bx) (d n1 n2 : Nat) (ho1 : objAt O d n1 = some (oints b.low)) (ho2 : objAt O d n2 = some (oints b.high)) (hr : all.length ≤ 4096) (ht : t.length = all.length) (hc : care.length = all.length)
    (hv : ∀ v ∈ all, v.length ≤ b.low.length ∧ v.length ≤ b.high.length ∧ v.length ≤ max63) : ASpec Tryd.prog 136 [.agg [.osl d n1, .osl d n2], intss all, bools t, bools care] O (bb (freeR (refusedR all t care) b)) [] O := by
  rw [← permR_free]
  generalize hR : permR b all t care = R
  refine aspec_intro Tk Tryd.func136 rfl Tryd.call136 Tryd.ntmps136 (Nat.le_of_ble_eq_true rfl) fun E => ?_
  refine g_run Tk Tryd.func136 ?_
  refine g_loop ?_
  refine rch_loop2 (fun i : Nat => [(1, intss all), (2, bools t), (3, bools care), (4, .own 0 4 0 0), (9, ii i)]) (fun i => [(4, .box [.osl (d + 1) n1, .osl (d + 1) n2])]) (fun _ => O) 35
    (fun i => i ≤ all.length ∧ permR b (all.drop i) (t.drop i) (care.drop i) = R) (fun i => all.length - i) 0 ⟨Nat.zero_le _, hR⟩ ⟨rfl, rfl, rfl, rfl, rfl, trivial⟩ rfl ⟨rfl, trivial⟩ rfl rfl ?_
  rintro i ⟨hi', hno⟩ ih
  clear hR
  refine g_run Tk Tryd.func136 ?_
  first | refine g_cnd Tk Tryd.func136 rfl (fun g1 => ?_) (fun g1 => ?_) | refine g_know Tk Tryd.func136 rfl (fun g1 => ?_) (fun g1 => ?_) | refine s_know Tk (fun g1 => ?_) (fun g1 => ?_)
  · have h3 : i < all.length := by simpa using g1
    have gv : (all.map fun x => [intsI x])[(i : Int).toNat]? = some [intsI all[i]] := get_mapZ (f := fun x => [intsI x]) h3
    have gl : (t.map fun x => [I.v (.bool x)])[(i : Int).toNat]? = some [I.v (.bool (t[i]'(by omega)))] := get_mapZ (f := fun x => [I.v (.bool x)]) (by omega)
    have gh : (care.map fun x => [I.v (.bool x)])[(i : Int).toNat]? = some [I.v (.bool (care[i]'(by omega)))] := get_mapZ (f := fun x => [I.v (.bool x)]) (by omega)
    have dv : all.drop i = all[i] :: all.drop (i + 1) := List.drop_eq_getElem_cons h3
    have dl : t.drop i = (t[i]'(by omega)) :: t.drop (i + 1) := List.drop_eq_getElem_cons (by omega)
    have dh : care.drop i = (care[i]'(by omega)) :: care.drop (i + 1) := List.drop_eq_getElem_cons (by omega)
    rw [dv, dl, dh] at hno
    simp only [permR] at hno
    clear dv dl dh
    have hx := hv _ (List.getElem_mem h3)
    generalize all[i] = x at *
    generalize t[i]'(by omega) = a at *
    generalize care[i]'(by omega) = c at *
    have hw := fun O d => within28o O b x d n1 n2
    have hi1 : ii (IntKind.i64.wrap ((i : Int) + 1)) = ii ((i + 1 : Nat) : Int) := congrArg ii (wsucc (n := 4096) (by omega) (by decide))
    refine g_drawn Tk Tryd.func136 mixedT rfl ?_
    first | refine g_need Tk Tryd.func136 (by exact ⟨by omega, by show (i : Int) < (care.length : Int); omega⟩) ?_ | refine s_need Tk (by exact ⟨by omega, by show (i : Int) < (care.length : Int); omega⟩) ?_
    first | refine g_elem Tk Tryd.func136 (gh) ?_ | refine s_elem Tk (gh) ?_
    cases c with
    | false =>
      first | refine g_cnd Tk Tryd.func136 rfl (fun h4 => ?_) (fun h4 => ?_) | refine g_know Tk Tryd.func136 rfl (fun h4 => ?_) (fun h4 => ?_) | refine s_know Tk (fun h4 => ?_) (fun h4 => ?_)
      · cases h4
      first | refine g_cnd Tk Tryd.func136 rfl (fun h5 => ?_) (fun h5 => ?_) | refine g_know Tk Tryd.func136 rfl (fun h5 => ?_) (fun h5 => ?_) | refine s_know Tk (fun h5 => ?_) (fun h5 => ?_)
      · cases h5
      refine e_done Tk Tryd.func136 (by kernel_rfl) ?_
      repeat (first | refine g_cnd Tk Tryd.func136 rfl (fun _ => ?_) (fun h => absurd h (by decide)) | refine g_cnd Tk Tryd.func136 rfl (fun h => absurd h (by decide)) (fun _ => ?_) | refine g_know Tk Tryd.func136 rfl (fun _ => ?_) (fun h => absurd h (by decide)) | refine g_know Tk Tryd.func136 rfl (fun h => absurd h (by decide)) (fun _ => ?_) | refine s_know Tk (fun _ => ?_) (fun h => absurd h (by decide)) | refine s_know Tk (fun h => absurd h (by decide)) (fun _ => ?_))
      refine g_loop ?_
      exact ih (i + 1) _ _ ⟨h3, hno⟩ (by omega) ⟨rfl, rfl, rfl, rfl, hi1, trivial⟩ rfl ⟨rfl, trivial⟩ rfl rfl
    | true =>
      first | refine g_cnd Tk Tryd.func136 rfl (fun h4 => ?_) (fun h4 => ?_) | refine g_know Tk Tryd.func136 rfl (fun h4 => ?_) (fun h4 => ?_) | refine s_know Tk (fun h4 => ?_) (fun h4 => ?_)
      rotate_left
      · cases h4
      first | refine g_need Tk Tryd.func136 (by exact ⟨by omega, by show (i : Int) < (t.length : Int); omega⟩) ?_ | refine s_need Tk (by exact ⟨by omega, by show (i : Int) < (t.length : Int); omega⟩) ?_
      first | refine g_elem Tk Tryd.func136 (gl) ?_ | refine s_elem Tk (gl) ?_
      cases a with
      | true =>
        first | refine g_cnd Tk Tryd.func136 rfl (fun h5 => ?_) (fun h5 => ?_) | refine g_know Tk Tryd.func136 rfl (fun h5 => ?_) (fun h5 => ?_) | refine s_know Tk (fun h5 => ?_) (fun h5 => ?_)
        · cases h5
        refine e_done Tk Tryd.func136 (by kernel_rfl) ?_
        repeat (first | refine g_cnd Tk Tryd.func136 rfl (fun _ => ?_) (fun h => absurd h (by decide)) | refine g_cnd Tk Tryd.func136 rfl (fun h => absurd h (by decide)) (fun _ => ?_) | refine g_know Tk Tryd.func136 rfl (fun _ => ?_) (fun h => absurd h (by decide)) | refine g_know Tk Tryd.func136 rfl (fun h => absurd h (by decide)) (fun _ => ?_) | refine s_know Tk (fun _ => ?_) (fun h => absurd h (by decide)) | refine s_know Tk (fun h => absurd h (by decide)) (fun _ => ?_))
        refine g_loop ?_
        exact ih (i + 1) _ _ ⟨h3, hno⟩ (by omega) ⟨rfl, rfl, rfl, rfl, hi1, trivial⟩ rfl ⟨rfl, trivial⟩ rfl rfl
      | false =>
        first | refine g_cnd Tk Tryd.func136 rfl (fun h5 => ?_) (fun h5 => ?_) | refine g_know Tk Tryd.func136 rfl (fun h5 => ?_) (fun h5 => ?_) | refine s_know Tk (fun h5 => ?_) (fun h5 => ?_)
        rotate_left
        · cases h5
        first | refine g_need Tk Tryd.func136 (by exact ⟨by omega, by show (i : Int) < (all.length : Int); omega⟩) ?_ | refine s_need Tk (by exact ⟨by omega, by show (i : Int) < (all.length : Int); omega⟩) ?_
        first | refine g_elem Tk Tryd.func136 (gv) ?_ | refine s_elem Tk (gv) ?_
        first | refine g_call Tk Tryd.func136 (hw _ _ (up_obj ho1) (up_obj ho2) hx.1 hx.2.1 hx.2.2) rfl rfl rfl rfl rfl ?_ | refine s_callq Tk (fun _ => hw _ _ (up_obj ho1) (up_obj ho2) hx.1 hx.2.1 hx.2.2) rfl rfl rfl ?_
        refine e_done Tk Tryd.func136 (by kernel_rfl) ?_
        first | refine g_cnd Tk Tryd.func136 rfl (fun h6 => ?_) (fun h6 => ?_) | refine g_know Tk Tryd.func136 rfl (fun h6 => ?_) (fun h6 => ?_) | refine s_know Tk (fun h6 => ?_) (fun h6 => ?_)
        · have : R = false := by rw [← hno]; simp [h6]
          subst this
          refine g_ret Tk (r := bb false) rfl rfl rfl trivial rfl rfl ?_
          rfl
        have hno : permR b (all.drop (i + 1)) (t.drop (i + 1)) (care.drop (i + 1)) = R := by rw [← hno]; simp [h6]
        refine g_loop ?_
        exact ih (i + 1) _ _ ⟨h3, hno⟩ (by omega) ⟨rfl, rfl, rfl, rfl, hi1, trivial⟩ rfl ⟨rfl, trivial⟩ rfl rfl
  · have h3 : all.length ≤ i := by simpa using g1
    rw [List.drop_eq_nil_of_le h3] at hno
    have : R = true := by rw [← hno]; rfl
    subst this
    refine g_ret Tk (r := bb true) rfl rfl rfl trivial rfl rfl ?_
    rfl
set_option maxHeartbeats 4000000 in
theorem grow73 (O : List Heap) (l : List Vr) (all : List (List Int)) (t care : List Bool) (v : List Int) (hl : l.length ≤ 16) (hb : ∀ a ∈ l, -65536 ≤ a.low ∧ a.high ≤ 65536) (hvl : v.length = l.length) (hvb : ∀ j, -65536 ≤ v.getD j 0 ∧ v.getD j 0 ≤ 65536) (hr : all.length ≤ 4096) (hrl : ∀ w ∈ all, w.length = l.length) (ht : t.length = all.length) (hc : care.length = all.length) :
    ASpec Tryd.prog 73 [vrs l, ints v, intss all, bools t, bools care] O (bxD (growVs (freeR (refusedR all t care)) l 0 ⟨v, v⟩)) [] O := by
  have hfree := fun (O : List Heap) (b : Bx) (d n1 n2 : Nat) (e1 : b.low.length = l.length) (e2 : b.high.length = l.length) (ho1 : objAt O d n1 = some (oints b.low)) (ho2 : objAt O d n2 = some (oints b.high)) => permitted136 O all t care b d n1 n2 ho1 ho2 hr ht hc (fun w hw => by have := hrl w hw; simp only [max63]; omega)
  generalize refusedR all t care = refused at *
  have hR0 : growVs (freeR refused) l 0 ⟨v, v⟩ = growVs (freeR refused) (l.drop 0) 0 ⟨v, v⟩ := rfl
  generalize growVs (freeR refused) l 0 ⟨v, v⟩ = R at *
  refine aspec_stop [7, 11] Tk Tryd.func73 rfl Tryd.call73 Tryd.ntmps73 (Nat.le_of_ble_eq_true rfl) fun E => ?_
  refine g_run Tk Tryd.func73 ?_
  first | refine g_need Tk Tryd.func73 (by exact ⟨by show (0 + v.length) * 8 ≤ 140737488355328; omega, by show 0 + v.length ≤ 9223372036854775807; omega⟩) ?_ | refine s_need Tk (by exact ⟨by show (0 + v.length) * 8 ≤ 140737488355328; omega, by show 0 + v.length ≤ 9223372036854775807; omega⟩) ?_
  first | refine g_need Tk Tryd.func73 (by exact ⟨by show (0 + v.length) * 8 ≤ 140737488355328; omega, by show 0 + v.length ≤ 9223372036854775807; omega⟩) ?_ | refine s_need Tk (by exact ⟨by show (0 + v.length) * 8 ≤ 140737488355328; omega, by show 0 + v.length ≤ 9223372036854775807; omega⟩) ?_
  refine g_loop ?_
  refine rch_loop2 (fun x : Nat × Bx => [(0, vrs l), (2, intss all), (3, bools t), (4, bools care), (10, .own 0 10 0 0), (11, .own 0 11 0 0), (12, ii x.1)]) (fun x => [(10, .box [.i (.v (.slice none 0 0)), .i (.v (.slice none 0 0))]), (11, .box [.osl 0 15, .osl 0 18]), (15, oints x.2.low), (18, oints x.2.high)]) (fun _ => O) 89
    (fun x => x.1 ≤ l.length ∧ x.2.low.length = l.length ∧ x.2.high.length = l.length ∧ (∀ j, -65536 ≤ x.2.low.getD j 0 ∧ x.2.low.getD j 0 ≤ 65536) ∧ (∀ j, -65536 ≤ x.2.high.getD j 0 ∧ x.2.high.getD j 0 ≤ 65536) ∧ R = growVs (freeR refused) (l.drop x.1) x.1 x.2) (fun x => l.length - x.1) (0, ⟨v, v⟩)
    ⟨Nat.zero_le _, hvl, hvl, hvb, hvb, hR0⟩ ⟨rfl, rfl, rfl, rfl, rfl, rfl, rfl, trivial⟩ rfl ⟨rfl, rfl, congrArg some (oints_zero v), congrArg some (oints_zero v), trivial⟩ rfl rfl ?_
  clear hR0
  rintro ⟨i, ⟨lo, hi⟩⟩ ⟨hi', hlo, hhi, hbl, hbh, hno⟩ ih
  simp only at hi' hlo hhi hbl hbh hno
  refine g_run Tk Tryd.func73 ?_
  first | refine g_cnd Tk Tryd.func73 rfl (fun g1 => ?_) (fun g1 => ?_) | refine g_know Tk Tryd.func73 rfl (fun g1 => ?_) (fun g1 => ?_) | refine s_know Tk (fun g1 => ?_) (fun g1 => ?_)
  · have h1 : i < l.length := by simpa using g1
    clear g1
    have hg : (l.map vrI)[(i : Int).toNat]? = some (vrI l[i]) := get_mapZ h1
    have hd : l.drop i = l[i] :: l.drop (i + 1) := List.drop_eq_getElem_cons h1
    have hbi := hb _ (List.getElem_mem h1)
    rw [hd] at hno
    simp only [growVs, growV] at hno
    generalize l[i] = va at *
    obtain ⟨nm, vl, vh, vi'⟩ := va
    simp only at hno hbi
    let n0 := (lo.getD i 0 - vl).toNat
    apply join_q (P := fun b : Bx => b.low.length = l.length ∧ b.high.length = l.length ∧ (∀ j, -65536 ≤ b.low.getD j 0 ∧ b.low.getD j 0 ≤ 65536) ∧ (∀ j, -65536 ≤ b.high.getD j 0 ∧ b.high.getD j 0 ≤ 65536) ∧ R = growVs (freeR refused) (l.drop (i + 1)) (i + 1) (upR (freeR refused) i vh (vh - b.high.getD i 0).toNat b))
      (s6 := fun b : Bx => { σ := [(0, vrs l), (2, intss all), (3, bools t), (4, bools care), (10, .own 0 10 0 0), (11, .own 0 11 0 0), (12, ii i)], S := [(10, .box [.i (.v (.slice none 0 0)), .i (.v (.slice none 0 0))]), (11, .box [.osl 0 15, .osl 0 18]), (15, oints b.low), (18, oints b.high)] :: O, n := 89 })
    · intro J
      refine g_loop ?_
      refine rch_loop2 (fun b : Bx => [(0, vrs l), (2, intss all), (3, bools t), (4, bools care), (10, .own 0 10 0 0), (11, .own 0 11 0 0), (12, ii i)]) (fun b => [(10, .box [.i (.v (.slice none 0 0)), .i (.v (.slice none 0 0))]), (11, .box [.osl 0 15, .osl 0 18]), (15, oints b.low), (18, oints b.high)]) (fun _ => O) 89
        (fun b => b.low.length = l.length ∧ b.high.length = l.length ∧ (∀ j, -65536 ≤ b.low.getD j 0 ∧ b.low.getD j 0 ≤ 65536) ∧ (∀ j, -65536 ≤ b.high.getD j 0 ∧ b.high.getD j 0 ≤ 65536) ∧ downR (freeR refused) i vl n0 ⟨lo, hi⟩ = downR (freeR refused) i vl (b.low.getD i 0 - vl).toNat b) (fun b => (b.low.getD i 0 - vl).toNat) ⟨lo, hi⟩
        ⟨hlo, hhi, hbl, hbh, rfl⟩ ⟨rfl, rfl, rfl, rfl, rfl, rfl, rfl, trivial⟩ rfl ⟨rfl, rfl, rfl, rfl, trivial⟩ rfl rfl ?_
      rintro ⟨lo', hi2⟩ ⟨hlo, hhi, hbl, hbh, hdn⟩ ih2
      simp only at hlo hhi hbl hbh hdn
      have hgl : (lo'.map fun x => [vi x])[(i : Int).toNat]? = some [vi (lo'.getD i 0)] := by
        rw [get_mapZ (f := fun x => [vi x]) (show i < lo'.length by omega), List.getD_eq_getElem?_getD, List.getElem?_eq_getElem (show i < lo'.length by omega)]; rfl
      have hxb := hbl i
      generalize hx : lo'.getD i 0 = x at *
      refine g_run Tk Tryd.func73 ?_
      refine g_drawn Tk Tryd.func73 mixedT rfl ?_
      first | refine g_need Tk Tryd.func73 (by exact ⟨by omega, by show (i : Int) < (lo'.length : Int); omega⟩) ?_ | refine s_need Tk (by exact ⟨by omega, by show (i : Int) < (lo'.length : Int); omega⟩) ?_
      first | refine g_elem Tk Tryd.func73 (hgl) ?_ | refine s_elem Tk (hgl) ?_
      first | refine g_need Tk Tryd.func73 (by exact ⟨by omega, by show (i : Int) < (l.length : Int); omega⟩) ?_ | refine s_need Tk (by exact ⟨by omega, by show (i : Int) < (l.length : Int); omega⟩) ?_
      first | refine g_elem Tk Tryd.func73 (hg) ?_ | refine s_elem Tk (hg) ?_
      refine e_done Tk Tryd.func73 (by kernel_rfl) ?_
      first | refine g_cnd Tk Tryd.func73 rfl (fun g2 => ?_) (fun g2 => ?_) | refine g_know Tk Tryd.func73 rfl (fun g2 => ?_) (fun g2 => ?_) | refine s_know Tk (fun g2 => ?_) (fun g2 => ?_)
      · have h2 : vl < x := of_decide_eq_true g2
        clear g2
        rw [show (x - vl).toNat = (x - 1 - vl).toNat + 1 by omega] at hdn
        simp only [downR, hx] at hdn
        rw [if_pos (by omega)] at hdn
        have hw : IntKind.i64.wrap (x - 1) = x - 1 := w64 (by omega) (by omega)
        first | refine g_need Tk Tryd.func73 (by exact ⟨by omega, by show (i : Int) < (lo'.length : Int); omega⟩) ?_ | refine s_need Tk (by exact ⟨by omega, by show (i : Int) < (lo'.length : Int); omega⟩) ?_
        first | refine g_elem Tk Tryd.func73 (hgl) ?_ | refine s_elem Tk (hgl) ?_
        first | refine g_need Tk Tryd.func73 (by exact ⟨by omega, by show (i : Int) < (lo'.length : Int); omega⟩) ?_ | refine s_need Tk (by exact ⟨by omega, by show (i : Int) < (lo'.length : Int); omega⟩) ?_
        refine g_stop ?_
        refine rch_meet (l := [(0, vrs l), (2, intss all), (3, bools t), (4, bools care), (10, .own 0 10 0 0), (11, .own 0 11 0 0), (12, ii i)]) (Hv := [(10, .box [.i (.v (.slice none 0 0)), .i (.v (.slice none 0 0))]), (11, .box [.osl 0 15, .osl 0 18]), (15, oints (lo'.set i (x - 1))), (18, oints hi2)]) (n := 89) ?_ ⟨rfl, rfl, rfl, rfl, rfl, rfl, rfl, trivial⟩ rfl ⟨rfl, rfl, by rw [hw]; exact congrArg some (oints_set lo' i (x - 1)), rfl, trivial⟩ rfl rfl
        refine g_run Tk Tryd.func73 ?_
        refine g_go Tk Tryd.func73 ?_
        first | refine g_call Tk Tryd.func73 (hfree _ ⟨lo'.set i (x - 1), hi2⟩ 0 15 18 (by simpa using hlo) hhi rfl rfl) rfl rfl rfl rfl rfl ?_ | refine s_callq Tk (fun _ => hfree _ ⟨lo'.set i (x - 1), hi2⟩ 0 15 18 (by simpa using hlo) hhi rfl rfl) rfl rfl rfl ?_
        have hlo2 : (lo'.set i (x - 1)).length = l.length := by simpa using hlo
        have hbl2 : ∀ j, -65536 ≤ (lo'.set i (x - 1)).getD j 0 ∧ (lo'.set i (x - 1)).getD j 0 ≤ 65536 := fun j => by
          rw [getD_set]
          split
          · omega
          · exact hbl j
        have hgx : (lo'.set i (x - 1)).getD i 0 = x - 1 := by rw [getD_set, if_pos ⟨rfl, by omega⟩]
        first | refine g_cnd Tk Tryd.func73 rfl (fun g3 => ?_) (fun g3 => ?_) | refine g_know Tk Tryd.func73 rfl (fun g3 => ?_) (fun g3 => ?_) | refine s_know Tk (fun g3 => ?_) (fun g3 => ?_)
        · have h3 : freeR refused ⟨lo'.set i (x - 1), hi2⟩ = false := notT g3
          rw [if_neg (by rw [h3]; simp)] at hdn
          have hw2 : IntKind.i64.wrap (x - 1 + 1) = x := by rw [w64 (by omega) (by omega)]; omega
          have hgl2 : ((lo'.set i (x - 1)).map fun x => [vi x])[(i : Int).toNat]? = some [vi (x - 1)] := by
            rw [get_mapZ (f := fun x => [vi x]) (show i < (lo'.set i (x - 1)).length by omega)]; simp
          have hback : (lo'.set i (x - 1)).set i x = lo' := by
            rw [List.set_set]
            apply List.ext_getElem? 
            intro j
            rw [List.getElem?_set]
            split
            · rename_i e
              subst e
              rw [if_pos (by omega), ← hx, List.getD_eq_getElem?_getD, List.getElem?_eq_getElem (show i < lo'.length by omega)]
              rfl
            · rfl
          first | refine g_need Tk Tryd.func73 (by exact ⟨by omega, by show (i : Int) < ((lo'.set i (x - 1)).length : Int); omega⟩) ?_ | refine s_need Tk (by exact ⟨by omega, by show (i : Int) < ((lo'.set i (x - 1)).length : Int); omega⟩) ?_
          first | refine g_elem Tk Tryd.func73 (hgl2) ?_ | refine s_elem Tk (hgl2) ?_
          first | refine g_need Tk Tryd.func73 (by exact ⟨by omega, by show (i : Int) < ((lo'.set i (x - 1)).length : Int); omega⟩) ?_ | refine s_need Tk (by exact ⟨by omega, by show (i : Int) < ((lo'.set i (x - 1)).length : Int); omega⟩) ?_
          refine g_loop ?_
          refine rch_meet (J ⟨lo', hi2⟩ ⟨hlo, hhi, hbl, hbh, ?_⟩) ⟨rfl, rfl, rfl, rfl, rfl, rfl, rfl, trivial⟩ rfl ⟨rfl, rfl, by rw [hw2]; exact congrArg some ((oints_set (lo'.set i (x - 1)) i x).trans (congrArg oints hback)), rfl, trivial⟩ rfl rfl
          rw [hno, hdn]
        · have h3 : freeR refused ⟨lo'.set i (x - 1), hi2⟩ = true := notF g3
          rw [if_pos h3] at hdn
          refine g_loop ?_
          refine ih2 ⟨lo'.set i (x - 1), hi2⟩ _ _ ⟨hlo2, hhi, hbl2, hbh, by simp only [hgx]; exact hdn⟩ (by simp only [hgx, hx]; omega) ⟨rfl, rfl, rfl, rfl, rfl, rfl, rfl, trivial⟩ rfl ⟨rfl, rfl, rfl, rfl, trivial⟩ rfl rfl
      · have h2 : ¬ vl < x := of_decide_eq_false g2
        rw [show (x - vl).toNat = 0 by omega] at hdn
        simp only [downR] at hdn
        refine g_loop ?_
        refine rch_meet (J ⟨lo', hi2⟩ ⟨hlo, hhi, hbl, hbh, ?_⟩) ⟨rfl, rfl, rfl, rfl, rfl, rfl, rfl, trivial⟩ rfl ⟨rfl, rfl, rfl, rfl, trivial⟩ rfl rfl
        rw [hno, hdn]
    rintro ⟨lo1, hi1⟩ ⟨hlo, hhi, hbl, hbh, hno⟩
    simp only at hlo hhi hbl hbh hno
    refine rch_loop2 (fun b : Bx => [(0, vrs l), (2, intss all), (3, bools t), (4, bools care), (10, .own 0 10 0 0), (11, .own 0 11 0 0), (12, ii i)]) (fun b => [(10, .box [.i (.v (.slice none 0 0)), .i (.v (.slice none 0 0))]), (11, .box [.osl 0 15, .osl 0 18]), (15, oints b.low), (18, oints b.high)]) (fun _ => O) 89
        (fun b => b.low.length = l.length ∧ b.high.length = l.length ∧ (∀ j, -65536 ≤ b.low.getD j 0 ∧ b.low.getD j 0 ≤ 65536) ∧ (∀ j, -65536 ≤ b.high.getD j 0 ∧ b.high.getD j 0 ≤ 65536) ∧ upR (freeR refused) i vh (vh - hi1.getD i 0).toNat ⟨lo1, hi1⟩ = upR (freeR refused) i vh (vh - b.high.getD i 0).toNat b) (fun b => (vh - b.high.getD i 0).toNat) ⟨lo1, hi1⟩
        ⟨hlo, hhi, hbl, hbh, rfl⟩ ⟨rfl, rfl, rfl, rfl, rfl, rfl, rfl, trivial⟩ rfl ⟨rfl, rfl, rfl, rfl, trivial⟩ rfl rfl ?_
    rintro ⟨lo2, hi'⟩ ⟨hlo, hhi, hbl, hbh, hdn⟩ ih2
    simp only at hlo hhi hbl hbh hdn
    have hgl : (hi'.map fun x => [vi x])[(i : Int).toNat]? = some [vi (hi'.getD i 0)] := by
      rw [get_mapZ (f := fun x => [vi x]) (show i < hi'.length by omega), List.getD_eq_getElem?_getD, List.getElem?_eq_getElem (show i < hi'.length by omega)]; rfl
    have hxb := hbh i
    generalize hx : hi'.getD i 0 = x at *
    refine g_run Tk Tryd.func73 ?_
    refine g_drawn Tk Tryd.func73 mixedT rfl ?_
    first | refine g_need Tk Tryd.func73 (by exact ⟨by omega, by show (i : Int) < (hi'.length : Int); omega⟩) ?_ | refine s_need Tk (by exact ⟨by omega, by show (i : Int) < (hi'.length : Int); omega⟩) ?_
    first | refine g_elem Tk Tryd.func73 (hgl) ?_ | refine s_elem Tk (hgl) ?_
    first | refine g_need Tk Tryd.func73 (by exact ⟨by omega, by show (i : Int) < (l.length : Int); omega⟩) ?_ | refine s_need Tk (by exact ⟨by omega, by show (i : Int) < (l.length : Int); omega⟩) ?_
    first | refine g_elem Tk Tryd.func73 (hg) ?_ | refine s_elem Tk (hg) ?_
    refine e_done Tk Tryd.func73 (by kernel_rfl) ?_
    first | refine g_cnd Tk Tryd.func73 rfl (fun g2 => ?_) (fun g2 => ?_) | refine g_know Tk Tryd.func73 rfl (fun g2 => ?_) (fun g2 => ?_) | refine s_know Tk (fun g2 => ?_) (fun g2 => ?_)
    · have h2 : x < vh := of_decide_eq_true g2
      clear g2
      rw [show (vh - x).toNat = (vh - (x + 1)).toNat + 1 by omega] at hdn
      simp only [upR, hx] at hdn
      rw [if_pos (by omega)] at hdn
      have hw : IntKind.i64.wrap (x + 1) = x + 1 := w64 (by omega) (by omega)
      first | refine g_need Tk Tryd.func73 (by exact ⟨by omega, by show (i : Int) < (hi'.length : Int); omega⟩) ?_ | refine s_need Tk (by exact ⟨by omega, by show (i : Int) < (hi'.length : Int); omega⟩) ?_
      first | refine g_elem Tk Tryd.func73 (hgl) ?_ | refine s_elem Tk (hgl) ?_
      first | refine g_need Tk Tryd.func73 (by exact ⟨by omega, by show (i : Int) < (hi'.length : Int); omega⟩) ?_ | refine s_need Tk (by exact ⟨by omega, by show (i : Int) < (hi'.length : Int); omega⟩) ?_
      refine g_stop ?_
      refine rch_meet (l := [(0, vrs l), (2, intss all), (3, bools t), (4, bools care), (10, .own 0 10 0 0), (11, .own 0 11 0 0), (12, ii i)]) (Hv := [(10, .box [.i (.v (.slice none 0 0)), .i (.v (.slice none 0 0))]), (11, .box [.osl 0 15, .osl 0 18]), (15, oints lo2), (18, oints (hi'.set i (x + 1)))]) (n := 89) ?_ ⟨rfl, rfl, rfl, rfl, rfl, rfl, rfl, trivial⟩ rfl ⟨rfl, rfl, rfl, by rw [hw]; exact congrArg some (oints_set hi' i (x + 1)), trivial⟩ rfl rfl
      refine g_run Tk Tryd.func73 ?_
      refine g_go Tk Tryd.func73 ?_
      first | refine g_call Tk Tryd.func73 (hfree _ ⟨lo2, hi'.set i (x + 1)⟩ 0 15 18 hlo (by simpa using hhi) rfl rfl) rfl rfl rfl rfl rfl ?_ | refine s_callq Tk (fun _ => hfree _ ⟨lo2, hi'.set i (x + 1)⟩ 0 15 18 hlo (by simpa using hhi) rfl rfl) rfl rfl rfl ?_
      have hhi2 : (hi'.set i (x + 1)).length = l.length := by simpa using hhi
      have hbh2 : ∀ j, -65536 ≤ (hi'.set i (x + 1)).getD j 0 ∧ (hi'.set i (x + 1)).getD j 0 ≤ 65536 := fun j => by
        rw [getD_set]
        split
        · omega
        · exact hbh j
      have hgx : (hi'.set i (x + 1)).getD i 0 = x + 1 := by rw [getD_set, if_pos ⟨rfl, by omega⟩]
      first | refine g_cnd Tk Tryd.func73 rfl (fun g3 => ?_) (fun g3 => ?_) | refine g_know Tk Tryd.func73 rfl (fun g3 => ?_) (fun g3 => ?_) | refine s_know Tk (fun g3 => ?_) (fun g3 => ?_)
      · have h3 : freeR refused ⟨lo2, hi'.set i (x + 1)⟩ = false := notT g3
        rw [if_neg (by rw [h3]; simp)] at hdn
        have hw2 : IntKind.i64.wrap (x + 1 - 1) = x := by rw [w64 (by omega) (by omega)]; omega
        have hgl2 : ((hi'.set i (x + 1)).map fun x => [vi x])[(i : Int).toNat]? = some [vi (x + 1)] := by
          rw [get_mapZ (f := fun x => [vi x]) (show i < (hi'.set i (x + 1)).length by omega)]; simp
        have hback : (hi'.set i (x + 1)).set i x = hi' := by
          rw [List.set_set]
          apply List.ext_getElem?
          intro j
          rw [List.getElem?_set]
          split
          · rename_i e
            subst e
            rw [if_pos (by omega), ← hx, List.getD_eq_getElem?_getD, List.getElem?_eq_getElem (show i < hi'.length by omega)]
            rfl
          · rfl
        first | refine g_need Tk Tryd.func73 (by exact ⟨by omega, by show (i : Int) < ((hi'.set i (x + 1)).length : Int); omega⟩) ?_ | refine s_need Tk (by exact ⟨by omega, by show (i : Int) < ((hi'.set i (x + 1)).length : Int); omega⟩) ?_
        first | refine g_elem Tk Tryd.func73 (hgl2) ?_ | refine s_elem Tk (hgl2) ?_
        first | refine g_need Tk Tryd.func73 (by exact ⟨by omega, by show (i : Int) < ((hi'.set i (x + 1)).length : Int); omega⟩) ?_ | refine s_need Tk (by exact ⟨by omega, by show (i : Int) < ((hi'.set i (x + 1)).length : Int); omega⟩) ?_
        refine g_loop ?_
        refine ih (i + 1, ⟨lo2, hi'⟩) _ _ ⟨h1, hlo, hhi, hbl, hbh, ?_⟩ (by simp only; omega) ⟨rfl, rfl, rfl, rfl, rfl, rfl, congrArg ii (wsucc (n := 16) (by omega) (by decide)), trivial⟩ rfl ⟨rfl, rfl, rfl, by rw [hw2]; exact congrArg some ((oints_set (hi'.set i (x + 1)) i x).trans (congrArg oints hback)), trivial⟩ rfl rfl
        rw [hno, hdn]
      · have h3 : freeR refused ⟨lo2, hi'.set i (x + 1)⟩ = true := notF g3
        rw [if_pos h3] at hdn
        refine g_loop ?_
        refine ih2 ⟨lo2, hi'.set i (x + 1)⟩ _ _ ⟨hlo, hhi2, hbl, hbh2, by simp only [hgx]; exact hdn⟩ (by simp only [hgx, hx]; omega) ⟨rfl, rfl, rfl, rfl, rfl, rfl, rfl, trivial⟩ rfl ⟨rfl, rfl, rfl, rfl, trivial⟩ rfl rfl
    · have h2 : ¬ x < vh := of_decide_eq_false g2
      rw [show (vh - x).toNat = 0 by omega] at hdn
      simp only [upR] at hdn
      refine g_loop ?_
      refine ih (i + 1, ⟨lo2, hi'⟩) _ _ ⟨h1, hlo, hhi, hbl, hbh, ?_⟩ (by simp only; omega) ⟨rfl, rfl, rfl, rfl, rfl, rfl, congrArg ii (wsucc (n := 16) (by omega) (by decide)), trivial⟩ rfl ⟨rfl, rfl, rfl, rfl, trivial⟩ rfl rfl
      rw [hno, hdn]
  · have h1 : l.length ≤ i := by simpa using g1
    rw [List.drop_eq_nil_of_le h1] at hno
    simp only [growVs] at hno
    subst hno
    refine g_rwk (wk_freeze 15 rfl rfl) ?_
    refine g_rwk (wk_freeze 18 rfl rfl) ?_
    refine g_rwk (wk_imm rfl) ?_
    refine g_ret Tk (r := bxD ⟨lo, hi⟩) rfl rfl rfl trivial rfl rfl ?_
    rfl
end Go.AI


/- The law's domain, table, bits. -/
namespace Go.AI
open Go.Proofs
set_option maxRecDepth 20000
theorem domain17 (O : List Heap) (l : List Vr) (hl : l.length ≤ 16) (hv : ∀ v ∈ l, (-65536 ≤ v.low ∧ v.high ≤ 65536) ∧ v.low ≤ v.high) (hcl : ∀ j, (allV (l.take j)).length ≤ 4096) : ASpec Tryd.prog 17 [vrs l] O (intss (allV l)) [] O := by
  refine aspec_stop [200045] Tk Tryd.func17 rfl Tryd.call17 Tryd.ntmps17 (Nat.le_of_ble_eq_true rfl) fun E => ?_
  refine g_run Tk Tryd.func17 ?_
  refine g_loop ?_
  have hco : CoD (.i (.sl 1 1 [[.v (.slice none 0 0)]])) (intss [[]]) := by
    show CoD _ (.i (.sl 1 1 [[.sl 1 0 []]]))
    repeat' (first | refine coD_tup ?_ | refine coD_agg ?_ | refine coD_i ?_ | refine CoDL.cons ?_ ?_ | exact CoDL.nil | exact coI_nil | refine coI_sl ?_ | refine CoLL.cons ?_ ?_ | exact CoLL.nil | refine CoL.cons ?_ ?_ | exact CoL.nil | exact CoI.refl _ | exact CoL.refl _ | exact CoLL.refl _ | exact CoDL.refl _ | exact CoD.refl _)
  refine rch_wk (wk_freeze 8 rfl rfl) ?_
  refine rch_wk (wk_imm rfl) ?_
  refine rch_wk (wk_co 3 (d := intss [[]]) (by exact hco)) ?_
  clear hco
  refine rch_loop2 (fun x : Nat × List (List Int) => [(0, vrs l), (3, intss x.2), (4, ii x.1)]) (fun _ => []) (fun _ => O) 49
    (fun x => x.1 ≤ l.length ∧ x.2 = allV (l.take x.1) ∧ ∀ y ∈ x.2, y.length = x.1) (fun x => l.length - x.1) (0, [[]]) ⟨Nat.zero_le _, rfl, by simp⟩ ⟨rfl, rfl, rfl, trivial⟩ rfl trivial rfl rfl ?_
  rintro ⟨j, out⟩ ⟨hj, hout, hvals⟩ ih
  simp only at hj hout hvals
  have hlen : out.length ≤ 4096 := by rw [hout]; exact hcl j
  refine g_run Tk Tryd.func17 ?_
  first | refine g_cnd Tk Tryd.func17 rfl (fun g1 => ?_) (fun g1 => ?_) | refine g_know Tk Tryd.func17 rfl (fun g1 => ?_) (fun g1 => ?_) | refine s_know Tk (fun g1 => ?_) (fun g1 => ?_)
  · have h1 : j < l.length := by simpa using g1
    clear g1
    have hg : (l.map vrI)[(j : Int).toNat]? = some (vrI l[j]) := get_mapZ h1
    have hvo := hv _ (List.getElem_mem h1)
    have hnext : allStep out l[j] = allV (l.take (j + 1)) := by
      rw [hout]
      unfold allV
      rw [List.take_add_one, List.getElem?_eq_getElem h1, List.foldl_append]
      rfl
    have hsl : (allStep out l[j]).length ≤ 4096 := by rw [hnext]; exact hcl (j + 1)
    generalize l[j] = v at *
    obtain ⟨⟨hlo, hhi⟩, hlh⟩ := hvo
    have hpre : ∀ i, (allStep (out.take i) v).length ≤ 4096 := fun i => by
      have h1 := allStep_len' out v (by omega)
      have h2 := allStep_len' (out.take i) v (by omega)
      have h3 : (out.take i).length ≤ out.length := by simp only [List.length_take]; omega
      have h4 : ((out.take i).length : Int) * v.w ≤ out.length * v.w := Int.mul_le_mul_of_nonneg_right (by omega) (by unfold Vr.w; omega)
      omega
    have hsv := allStep_vals (out := out) (v := v) hvals
    refine g_loop ?_
    refine rch_wk (wk_nil 5 46 53 1 rfl rfl rfl) ?_
    refine rch_loop2 (fun x : Nat × List (List Int) => [(0, vrs l), (3, intss out), (4, ii j), (5, .osl 0 46), (6, ii x.1)]) (fun x => [(46, ointss x.2)]) (fun _ => O) 49
      (fun x => x.1 ≤ out.length ∧ x.2 = allStep (out.take x.1) v) (fun x => out.length - x.1) (0, []) ⟨Nat.zero_le _, rfl⟩ ⟨rfl, rfl, rfl, rfl, rfl, trivial⟩ rfl ⟨rfl, trivial⟩ rfl rfl ?_
    rintro ⟨i, acc⟩ ⟨hi, hacc⟩ ih2
    simp only at hi hacc
    refine g_run Tk Tryd.func17 ?_
    first | refine g_cnd Tk Tryd.func17 rfl (fun g2 => ?_) (fun g2 => ?_) | refine g_know Tk Tryd.func17 rfl (fun g2 => ?_) (fun g2 => ?_) | refine s_know Tk (fun g2 => ?_) (fun g2 => ?_)
    · have h2 : i < out.length := by simpa using g2
      clear g2
      have hgo : (out.map fun x => [intsI x])[(i : Int).toNat]? = some [intsI out[i]] := get_mapZ (f := fun x => [intsI x]) h2
      have hxl := hvals _ (List.getElem_mem h2)
      have hnx : allStep (out.take (i + 1)) v = acc ++ (rangeI v.low v.high).map fun n => out[i] ++ [n] := by
        rw [hacc]
        unfold allStep
        rw [List.take_add_one, List.getElem?_eq_getElem h2, List.flatMap_append]
        simp
      have hal : acc.length ≤ 4096 := by
        rw [hacc]
        exact hpre i
      generalize out[i] = vals at *
      have hk0 : rangeI v.low (v.low + ((0 : Nat) : Int) - 1) = [] := by
        unfold rangeI
        rw [show (v.low + ((0 : Nat) : Int) - 1 - v.low + 1).toNat = 0 by omega]
        rfl
      have hjb : 0 ≤ (j : Int) ∧ (j : Int) < (l.length : Int) := by omega
      first | refine g_need Tk Tryd.func17 (by exact hjb) ?_ | refine s_need Tk (by exact hjb) ?_
      first | refine g_elem Tk Tryd.func17 (hg) ?_ | refine s_elem Tk (hg) ?_
      refine g_loop ?_
      refine rch_loop2 (fun k : Nat => [(0, vrs l), (3, intss out), (4, ii j), (5, .osl 0 46), (6, ii i), (7, ii (v.low + k))])
        (fun k => [(46, ointss (acc ++ (rangeI v.low (v.low + k - 1)).map fun n => vals ++ [n]))]) (fun _ => O) 49
        (fun k => (k : Int) ≤ v.high - v.low + 1) (fun k => (v.high - v.low + 1).toNat - k) 0 (show ((0 : Nat) : Int) ≤ v.high - v.low + 1 by omega) ⟨rfl, rfl, rfl, rfl, rfl, congrArg ii (by simp), trivial⟩ rfl ⟨by show some (ointss acc) = some (ointss (acc ++ (rangeI v.low (v.low + ((0 : Nat) : Int) - 1)).map fun n => vals ++ [n])); rw [hk0]; simp, trivial⟩ rfl rfl ?_
      rintro k hk ih3
      have hk : (k : Int) ≤ v.high - v.low + 1 := hk
      have hks : (rangeI v.low (v.low + ((k + 1 : Nat) : Int) - 1)).map (fun n => vals ++ [n]) = (rangeI v.low (v.low + k - 1)).map (fun n => vals ++ [n]) ++ [vals ++ [v.low + k]] := by
        unfold rangeI
        rw [show (v.low + ((k + 1 : Nat) : Int) - 1 - v.low + 1).toNat = k + 1 by omega, show (v.low + (k : Int) - 1 - v.low + 1).toNat = k by omega, List.range_succ, List.map_append, List.map_append]
        rfl
      have hkl : ((rangeI v.low (v.low + k - 1)).map fun n => vals ++ [n]).length = k := by
        unfold rangeI
        simp
        omega
      have hke : (k : Int) = v.high - v.low + 1 → (rangeI v.low (v.low + k - 1)).map (fun n => vals ++ [n]) = (rangeI v.low v.high).map fun n => vals ++ [n] := fun e => by rw [e, show v.low + (v.high - v.low + 1) - 1 = v.high by omega]
      generalize (rangeI v.low (v.low + k - 1)).map (fun n => vals ++ [n]) = part at *
      refine g_run Tk Tryd.func17 ?_
      first | refine g_need Tk Tryd.func17 (by exact hjb) ?_ | refine s_need Tk (by exact hjb) ?_
      first | refine g_elem Tk Tryd.func17 (hg) ?_ | refine s_elem Tk (hg) ?_
      first | refine g_cnd Tk Tryd.func17 rfl (fun g3 => ?_) (fun g3 => ?_) | refine g_know Tk Tryd.func17 rfl (fun g3 => ?_) (fun g3 => ?_) | refine s_know Tk (fun g3 => ?_) (fun g3 => ?_)
      · have h3 : v.low + k ≤ v.high := of_decide_eq_true g3
        clear g3
        first | refine g_need Tk Tryd.func17 (by exact ⟨by omega, by show (i : Int) < (out.length : Int); omega⟩) ?_ | refine s_need Tk (by exact ⟨by omega, by show (i : Int) < (out.length : Int); omega⟩) ?_
        first | refine g_elem Tk Tryd.func17 (hgo) ?_ | refine s_elem Tk (hgo) ?_
        first | refine g_need Tk Tryd.func17 (by exact ⟨by show (0 + vals.length) * 8 ≤ 140737488355328; omega, by show 0 + vals.length ≤ 9223372036854775807; omega⟩) ?_ | refine s_need Tk (by exact ⟨by show (0 + vals.length) * 8 ≤ 140737488355328; omega, by show 0 + vals.length ≤ 9223372036854775807; omega⟩) ?_
        first | refine g_need Tk Tryd.func17 (by exact ⟨by show (0 + vals.length + 1) * 8 ≤ 140737488355328; omega, by show 0 + vals.length + 1 ≤ 9223372036854775807; omega⟩) ?_ | refine s_need Tk (by exact ⟨by show (0 + vals.length + 1) * 8 ≤ 140737488355328; omega, by show 0 + vals.length + 1 ≤ 9223372036854775807; omega⟩) ?_
        refine g_pause Tk Tryd.func17 rfl rfl (Wk.trans (wk_freeze 44 rfl rfl) (wk_imm rfl)) ?_
        first | refine g_need Tk Tryd.func17 (by exact ⟨by show ((acc ++ part).length + 1) * 24 ≤ 140737488355328; simp only [List.length_append]; omega, by show (acc ++ part).length + 1 ≤ 9223372036854775807; simp only [List.length_append]; omega⟩) ?_ | refine s_need Tk (by exact ⟨by show ((acc ++ part).length + 1) * 24 ≤ 140737488355328; simp only [List.length_append]; omega, by show (acc ++ part).length + 1 ≤ 9223372036854775807; simp only [List.length_append]; omega⟩) ?_
        refine g_loop ?_
        refine ih3 (k + 1) _ _ (show ((k + 1 : Nat) : Int) ≤ v.high - v.low + 1 by omega) (by omega) ⟨rfl, rfl, rfl, rfl, rfl, congrArg ii ?_, trivial⟩ rfl ⟨?_, trivial⟩ rfl rfl
        · rw [w64 (by omega) (by omega)]; omega
        · rw [hks]
          have e : (vals ++ [v.low + (k : Int)]).map (fun x => [vi x]) = [] ++ vals.map (fun x => [vi x]) ++ [[vi (v.low + k)]] := by simp
          show some (Ob.arr 53 1 ((acc ++ part).length + 1) ((acc ++ part).map (fun x => [intsI x]) ++ [[.sl 1 (0 + vals.length + 1) ([] ++ vals.map (fun x => [vi x]) ++ [[vi (v.low + k)]])]]) true) = some (ointss (acc ++ (part ++ [vals ++ [v.low + (k : Int)]])))
          rw [← List.append_assoc acc part]
          have e2 : 0 + vals.length + 1 = (vals ++ [v.low + (k : Int)]).length := by simp
          rw [← e, e2]
          exact congrArg some (ointss_app _ _)
      · have h3 : ¬ v.low + k ≤ v.high := of_decide_eq_false g3
        clear g3
        rw [hke (by omega)]
        refine g_loop ?_
        refine ih2 (i + 1, acc ++ (rangeI v.low v.high).map fun n => vals ++ [n]) _ _ ⟨h2, hnx.symm⟩ (by simp only; omega) ⟨rfl, rfl, rfl, rfl, congrArg ii (wsucc (n := 4096) (by omega) (by decide)), trivial⟩ rfl ⟨rfl, trivial⟩ rfl rfl
    · have h2 : out.length ≤ i := by simpa using g2
      clear g2
      rw [List.take_of_length_le h2] at hacc
      refine g_loop ?_
      refine rch_wk (wk_freeze 46 rfl rfl) ?_
      refine rch_wk (wk_imm rfl) ?_
      rw [hacc] at *
      refine ih (j + 1, allStep out v) _ _ ⟨h1, hnext, hsv⟩ (by simp only; omega) ⟨rfl, rfl, congrArg ii (wsucc (n := 16) (by omega) (by decide)), trivial⟩ rfl trivial rfl rfl
  · have h1 : l.length ≤ j := by simpa using g1
    rw [List.take_of_length_le h1] at hout
    subst hout
    refine g_ret Tk (r := intss (allV l)) rfl rfl rfl trivial rfl rfl ?_
    rfl
end Go.AI


/- The law's table, bits, covered. -/
namespace Go.AI
open Go.Proofs
set_option maxRecDepth 20000
def tblL (x : Ex) : List (List Int) → List Bool → List Bool × Bool
  | [], acc => (acc, true)
  | v :: r, acc => if (evalX x v).2 ≠ 0 then ([], false) else tblL x r (acc ++ [(evalX x v).1 == 1])
/-- What the law asks of variables. -/
structure domOk (l : List Vr) : Prop where
  len : l.length ≤ 16
  b : ∀ v ∈ l, (-65536 ≤ v.low ∧ v.high ≤ 65536) ∧ v.low ≤ v.high
  cnt : ∀ j, (allV (l.take j)).length ≤ 4096
theorem domOk.all {l : List Vr} (h : domOk l) : (allV l).length ≤ 4096 := by have := h.cnt l.length; rwa [List.take_length] at this
theorem allV_mem_len {l : List Vr} {v : List Int} (h : v ∈ allV l) : v.length = l.length := inV_len ((allV_dom l).mem v |>.1 h)
theorem table23 (O : List Heap) (l : List Vr) (x : Ex) (hd : domOk l) (hok : exOk x) : ASpec Tryd.prog 23 [vrs l, exA x] O (.tup [bools (tblL x (allV l) []).1, bb (tblL x (allV l) []).2]) [] O := by
  have hdm := fun O => domain17 O l hd.len hd.b hd.cnt
  have hev := fun O v hl => evaluate51A O x v hok hl
  have hdl := hd.all
  have hv : ∀ v ∈ allV l, v.length ≤ max63 := fun v h => by have := allV_mem_len h; have := hd.len; simp only [max63]; omega
  generalize hR : tblL x (allV l) [] = R
  generalize allV l = dom at *
  obtain ⟨op, xv, ix, args⟩ := x
  refine aspec_intro Tk Tryd.func23 rfl Tryd.call23 Tryd.ntmps23 (Nat.le_of_ble_eq_true rfl) fun E => ?_
  refine g_run Tk Tryd.func23 ?_
  first | refine g_call Tk Tryd.func23 (hdm _) rfl rfl rfl rfl rfl ?_ | refine s_callq Tk (fun _ => hdm _) rfl rfl rfl ?_
  refine g_loop ?_
  refine rch_wk (wk_nil 6 34 4 1 rfl rfl rfl) ?_
  refine rch_loop2 (fun x : Nat × List Bool => [(3, .own 0 3 0 0), (6, .osl 0 34), (7, intss dom), (8, ii x.1)]) (fun x => [(3, .box [ii op, ii xv, ii ix, exs args]), (34, obools x.2)]) (fun _ => O) 36
    (fun x => x.1 ≤ dom.length ∧ x.2.length ≤ x.1 ∧ tblL (.mk op xv ix args) (dom.drop x.1) x.2 = R) (fun x => dom.length - x.1) (0, []) ⟨Nat.zero_le _, by simp, hR⟩ ⟨rfl, rfl, rfl, rfl, trivial⟩ rfl ⟨rfl, rfl, trivial⟩ rfl rfl ?_
  rintro ⟨i, acc⟩ ⟨hi, hal, hno⟩ ih
  clear hR
  simp only at hi hal hno
  refine g_run Tk Tryd.func23 ?_
  first | refine g_cnd Tk Tryd.func23 rfl (fun g1 => ?_) (fun g1 => ?_) | refine g_know Tk Tryd.func23 rfl (fun g1 => ?_) (fun g1 => ?_) | refine s_know Tk (fun g1 => ?_) (fun g1 => ?_)
  · have h1 : i < dom.length := by simpa using g1
    clear g1
    have hdr : dom.drop i = dom[i] :: dom.drop (i + 1) := List.drop_eq_getElem_cons h1
    have hg : (dom.map fun x => [intsI x])[(i : Int).toNat]? = some [intsI dom[i]] := get_mapZ (f := fun x => [intsI x]) h1
    have hvl := hv _ (List.getElem_mem h1)
    rw [hdr] at hno
    simp only [tblL] at hno
    generalize dom[i] = v at *
    have hev := fun O => hev O v hvl
    generalize evalX (.mk op xv ix args) v = V at *
    obtain ⟨w, we⟩ := V
    simp only at hno hev
    refine g_drawn Tk Tryd.func23 mixedT rfl ?_
    first | refine g_need Tk Tryd.func23 (by exact ⟨by omega, by show (i : Int) < (dom.length : Int); omega⟩) ?_ | refine s_need Tk (by exact ⟨by omega, by show (i : Int) < (dom.length : Int); omega⟩) ?_
    first | refine g_elem Tk Tryd.func23 (hg) ?_ | refine s_elem Tk (hg) ?_
    first | refine g_call Tk Tryd.func23 (hev _) rfl rfl rfl rfl rfl ?_ | refine s_callq Tk (fun _ => hev _) rfl rfl rfl ?_
    refine e_done Tk Tryd.func23 (by kernel_rfl) ?_
    first | refine g_cnd Tk Tryd.func23 rfl (fun h2 => ?_) (fun h2 => ?_) | refine g_know Tk Tryd.func23 rfl (fun h2 => ?_) (fun h2 => ?_) | refine s_know Tk (fun h2 => ?_) (fun h2 => ?_)
    · have h2 := bneT h2
      rw [if_pos h2] at hno
      subst hno
      refine g_ret_co Tk (r := _) rfl rfl rfl trivial rfl rfl ?_
      repeat' (first | refine coD_tup ?_ | refine coD_agg ?_ | refine coD_i ?_ | refine CoDL.cons ?_ ?_ | exact CoDL.nil | exact coI_nil | refine coI_sl ?_ | refine CoLL.cons ?_ ?_ | exact CoLL.nil | refine CoL.cons ?_ ?_ | exact CoL.nil | exact CoI.refl _ | exact CoL.refl _ | exact CoLL.refl _ | exact CoDL.refl _ | exact CoD.refl _)
    have h2 := bneF h2
    rw [if_neg (by simpa using h2)] at hno
    first | refine g_need Tk Tryd.func23 (by exact ⟨by show (acc.length + 1) * 1 ≤ 140737488355328; omega, by show acc.length + 1 ≤ 9223372036854775807; omega⟩) ?_ | refine s_need Tk (by exact ⟨by show (acc.length + 1) * 1 ≤ 140737488355328; omega, by show acc.length + 1 ≤ 9223372036854775807; omega⟩) ?_
    refine g_loop ?_
    refine ih (i + 1, acc ++ [w == 1]) _ _ ⟨h1, by simp only [List.length_append, List.length_cons, List.length_nil]; omega, hno⟩ (by simp only; omega) ⟨rfl, rfl, rfl, congrArg ii (wsucc (n := 4096) (by omega) (by decide)), trivial⟩ rfl ⟨rfl, congrArg some (obools_app acc (w == 1)), trivial⟩ rfl rfl
  · have h1 : dom.length ≤ i := by simpa using g1
    rw [List.drop_eq_nil_of_le h1] at hno
    simp only [tblL] at hno
    subst hno
    refine g_rwk (wk_freeze 34 rfl rfl) ?_
    refine g_rwk (wk_imm rfl) ?_
    refine g_ret_co Tk (r := _) rfl rfl rfl trivial rfl rfl ?_
    repeat' (first | refine coD_tup ?_ | refine coD_agg ?_ | refine coD_i ?_ | refine CoDL.cons ?_ ?_ | exact CoDL.nil | exact coI_nil | refine coI_sl ?_ | refine CoLL.cons ?_ ?_ | exact CoLL.nil | refine CoL.cons ?_ ?_ | exact CoL.nil | exact CoI.refl _ | exact CoL.refl _ | exact CoLL.refl _ | exact CoDL.refl _ | exact CoD.refl _)
end Go.AI
