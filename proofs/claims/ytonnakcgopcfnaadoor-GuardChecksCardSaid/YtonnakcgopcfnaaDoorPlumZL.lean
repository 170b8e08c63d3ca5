/- The layer of abstract runs, part 38. -/
import Derived.Test.YtonnakcgopcfnaaDoorPlumZK
import Derived.Shelf.Strings.Builder1
import Derived.Deep.Heap
set_option linter.unusedSimpArgs false
set_option linter.unusedVariables false
set_option linter.all false

/- Tables of guards; boxes that contain values; equal lists. -/
namespace Go.AI
open Go.Proofs
set_option maxRecDepth 20000
abbrev bools (l : List Bool) : D := .i (.sl 1 l.length (l.map fun b => [.v (.bool b)]))
abbrev obools (l : List Bool) : Ob := .arr 4 1 l.length (l.map fun b => [.v (.bool b)]) true
theorem obools_app (l : List Bool) (x : Bool) : Ob.arr 4 1 (l.length + 1) ((l.map fun b => [I.v (.bool b)]) ++ [[.v (.bool x)]]) true = obools (l ++ [x]) := by simp
def tabL (x : Ex) : List (List Int) → List Bool → List Bool × Int
  | [], acc => (acc, 0)
  | v :: r, acc => if (evalX x v).2 ≠ 0 then ([], (evalX x v).2) else tabL x r (acc ++ [(evalX x v).1 == 1])
/-- table: the values of a guard over a domain, or the error. -/
def tableR (n : Int) (dom : List (List Int)) (x : Ex) : List Bool × Int :=
  if (checkX x n).2 ≠ 0 then ([], (checkX x n).2) else if (checkX x n).1 ≠ 2 then ([], 16) else tabL x dom []
theorem table75 (O : List Heap) (l : List Vr) (dom : List (List Int)) (x : Ex) (hok : exOk x) (hd : dom.length ≤ 4096) (hv : ∀ v ∈ dom, v.length ≤ max63) : ASpec Tryd.prog 75 [vrs l, intss dom, exA x] O (.tup [bools (tableR l.length dom x).1, ii (tableR l.length dom x).2]) [] O := by
  have hck := fun O => check67A O x l.length hok
  have hev := fun O v hl => evaluate51A O x v hok hl
  generalize hR : tableR l.length dom x = R
  unfold tableR at hR
  obtain ⟨op, xv, ix, args⟩ := x
  generalize checkX (.mk op xv ix args) l.length = K at *
  obtain ⟨kk, ke⟩ := K
  simp only at hck hR
  refine aspec_intro Tk Tryd.func75 rfl Tryd.call75 Tryd.ntmps75 (Nat.le_of_ble_eq_true rfl) fun E => ?_
  refine g_run Tk Tryd.func75 ?_
  first | refine g_call Tk Tryd.func75 (hck _) rfl rfl rfl rfl rfl ?_ | refine s_callq Tk (fun _ => hck _) rfl rfl rfl ?_
  first | refine g_cnd Tk Tryd.func75 rfl (fun h1 => ?_) (fun h1 => ?_) | refine g_know Tk Tryd.func75 rfl (fun h1 => ?_) (fun h1 => ?_) | refine s_know Tk (fun h1 => ?_) (fun h1 => ?_)
  · have h1 := bneT h1
    rw [if_pos h1] at hR
    subst hR
    refine g_ret_co Tk (r := _) rfl rfl rfl trivial rfl rfl ?_
    repeat' (first | refine coD_tup ?_ | refine coD_agg ?_ | refine coD_i ?_ | refine CoDL.cons ?_ ?_ | exact CoDL.nil | exact coI_nil | refine coI_sl ?_ | refine CoLL.cons ?_ ?_ | exact CoLL.nil | refine CoL.cons ?_ ?_ | exact CoL.nil | exact CoI.refl _ | exact CoL.refl _ | exact CoLL.refl _ | exact CoDL.refl _ | exact CoD.refl _)
  have h1 := bneF h1
  rw [if_neg (by simpa using h1)] at hR
  first | refine g_cnd Tk Tryd.func75 rfl (fun h2 => ?_) (fun h2 => ?_) | refine g_know Tk Tryd.func75 rfl (fun h2 => ?_) (fun h2 => ?_) | refine s_know Tk (fun h2 => ?_) (fun h2 => ?_)
  · have h2 := bneT h2
    rw [if_pos h2] at hR
    subst hR
    refine g_ret_co Tk (r := _) rfl rfl rfl trivial rfl rfl ?_
    repeat' (first | refine coD_tup ?_ | refine coD_agg ?_ | refine coD_i ?_ | refine CoDL.cons ?_ ?_ | exact CoDL.nil | exact coI_nil | refine coI_sl ?_ | refine CoLL.cons ?_ ?_ | exact CoLL.nil | refine CoL.cons ?_ ?_ | exact CoL.nil | exact CoI.refl _ | exact CoL.refl _ | exact CoLL.refl _ | exact CoDL.refl _ | exact CoD.refl _)
  have h2 := bneF h2
  rw [if_neg (by simpa using h2)] at hR
  clear h1 h2 hck
  refine g_loop ?_
  refine rch_wk (wk_nil 10 46 4 1 rfl rfl rfl) ?_
  refine rch_loop2 (fun x : Nat × List Bool => [(5, .own 0 5 0 0), (10, .osl 0 46), (27, intss dom), (28, ii dom.length), (29, ii x.1)]) (fun x => [(5, .box [ii op, ii xv, ii ix, exs args]), (46, obools x.2)]) (fun _ => O) 49
    (fun x => x.1 ≤ dom.length ∧ x.2.length ≤ x.1 ∧ tabL (.mk op xv ix args) (dom.drop x.1) x.2 = R) (fun x => dom.length - x.1) (0, []) ⟨Nat.zero_le _, by simp, hR⟩ ⟨rfl, rfl, rfl, rfl, rfl, trivial⟩ rfl ⟨rfl, rfl, trivial⟩ rfl rfl ?_
  rintro ⟨i, acc⟩ ⟨hi, hal, hno⟩ ih
  clear hR
  simp only at hi hal hno
  refine g_run Tk Tryd.func75 ?_
  first | refine g_cnd Tk Tryd.func75 rfl (fun g1 => ?_) (fun g1 => ?_) | refine g_know Tk Tryd.func75 rfl (fun g1 => ?_) (fun g1 => ?_) | refine s_know Tk (fun g1 => ?_) (fun g1 => ?_)
  · have h1 : i < dom.length := by simpa using g1
    clear g1
    have hdr : dom.drop i = dom[i] :: dom.drop (i + 1) := List.drop_eq_getElem_cons h1
    have hg : (dom.map fun x => [intsI x])[(i : Int).toNat]? = some [intsI dom[i]] := get_mapZ (f := fun x => [intsI x]) h1
    have hvl := hv _ (List.getElem_mem h1)
    rw [hdr] at hno
    simp only [tabL] at hno
    generalize dom[i] = v at *
    have hev := fun O => hev O v hvl
    generalize evalX (.mk op xv ix args) v = V at *
    obtain ⟨w, we⟩ := V
    simp only at hno hev
    first | refine g_need Tk Tryd.func75 (by omega) ?_ | refine s_need Tk (by omega) ?_
    first | refine g_elem Tk Tryd.func75 (hg) ?_ | refine s_elem Tk (hg) ?_
    first | refine g_call Tk Tryd.func75 (hev _) rfl rfl rfl rfl rfl ?_ | refine s_callq Tk (fun _ => hev _) rfl rfl rfl ?_
    first | refine g_cnd Tk Tryd.func75 rfl (fun h2 => ?_) (fun h2 => ?_) | refine g_know Tk Tryd.func75 rfl (fun h2 => ?_) (fun h2 => ?_) | refine s_know Tk (fun h2 => ?_) (fun h2 => ?_)
    · have h2 := bneT h2
      rw [if_pos h2] at hno
      subst hno
      refine g_ret_co Tk (r := _) rfl rfl rfl trivial rfl rfl ?_
      repeat' (first | refine coD_tup ?_ | refine coD_agg ?_ | refine coD_i ?_ | refine CoDL.cons ?_ ?_ | exact CoDL.nil | exact coI_nil | refine coI_sl ?_ | refine CoLL.cons ?_ ?_ | exact CoLL.nil | refine CoL.cons ?_ ?_ | exact CoL.nil | exact CoI.refl _ | exact CoL.refl _ | exact CoLL.refl _ | exact CoDL.refl _ | exact CoD.refl _)
    have h2 := bneF h2
    rw [if_neg (by simpa using h2)] at hno
    first | refine g_need Tk Tryd.func75 (by exact ⟨by show (acc.length + 1) * 1 ≤ 140737488355328; omega, by show acc.length + 1 ≤ 9223372036854775807; omega⟩) ?_ | refine s_need Tk (by exact ⟨by show (acc.length + 1) * 1 ≤ 140737488355328; omega, by show acc.length + 1 ≤ 9223372036854775807; omega⟩) ?_
    refine g_loop ?_
    refine ih (i + 1, acc ++ [w == 1]) _ _ ⟨h1, by simp only [List.length_append, List.length_cons, List.length_nil]; omega, hno⟩ (by simp only; omega) ⟨rfl, rfl, rfl, rfl, congrArg ii (wsucc (n := 4096) (by omega) (by decide)), trivial⟩ rfl ⟨rfl, congrArg some (obools_app acc (w == 1)), trivial⟩ rfl rfl
  · have h1 : dom.length ≤ i := by simpa using g1
    rw [List.drop_eq_nil_of_le h1] at hno
    simp only [tabL] at hno
    subst hno
    refine g_rwk (wk_freeze 46 rfl rfl) ?_
    refine g_rwk (wk_imm rfl) ?_
    refine g_ret_co Tk (r := _) rfl rfl rfl trivial rfl rfl ?_
    repeat' (first | refine coD_tup ?_ | refine coD_agg ?_ | refine coD_i ?_ | refine CoDL.cons ?_ ?_ | exact CoDL.nil | exact coI_nil | refine coI_sl ?_ | refine CoLL.cons ?_ ?_ | exact CoLL.nil | refine CoL.cons ?_ ?_ | exact CoL.nil | exact CoI.refl _ | exact CoL.refl _ | exact CoLL.refl _ | exact CoDL.refl _ | exact CoD.refl _)
/-- Table. -/
def tableG (l : List Vr) (x : Ex) : List Bool × Int := if (allG l).2 ≠ 0 then ([], (allG l).2) else tableR l.length (allG l).1 x
theorem allG_len (l : List Vr) : (allG l).1.length ≤ 4096 ∧ ∀ v ∈ (allG l).1, v.length ≤ max63 := by
  unfold allG
  by_cases h : varsErr l ≠ 0
  · rw [if_pos h]; exact ⟨by simp, by simp⟩
  rw [if_neg h]
  have hv := vars_ok (l := l) (by simpa using h)
  have hl := vars_len (l := l) (by simpa using h)
  cases hc : cntR l 1 with
  | none => exact ⟨by simp, by simp⟩
  | some d =>
    have h1 := cntR_len (fun v h => by have := hv v h; omega) hc (by decide) (out := [[]]) rfl l.length
    rw [List.take_length] at h1
    refine ⟨h1, fun v hv => ?_⟩
    have := inV_len ((allV_dom l).mem v |>.1 hv)
    simp only [max63]; omega
theorem table31 (O : List Heap) (l : List Vr) (x : Ex) (hl : l.length ≤ max63) (hn : ∀ v ∈ l, v.name.size ≤ max63) (hok : exOk x) : ASpec Tryd.prog 31 [vrs l, exA x] O (.tup [bools (tableG l x).1, ii (tableG l x).2]) [] O := by
  have ha := fun O => allG30 O l hl hn
  have hlen := allG_len l
  generalize hR : tableG l x = R
  unfold tableG at hR
  generalize allG l = A at *
  obtain ⟨dom, e⟩ := A
  simp only at ha hlen hR
  have ht := fun O => table75 O l dom x hok hlen.1 hlen.2
  obtain ⟨op, xv, ix, args⟩ := x
  refine aspec_intro Tk Tryd.func31 rfl Tryd.call31 Tryd.ntmps31 (Nat.le_of_ble_eq_true rfl) fun E => ?_
  refine g_run Tk Tryd.func31 ?_
  first | refine g_call Tk Tryd.func31 (ha _) rfl rfl rfl rfl rfl ?_ | refine s_callq Tk (fun _ => ha _) rfl rfl rfl ?_
  first | refine g_cnd Tk Tryd.func31 rfl (fun h1 => ?_) (fun h1 => ?_) | refine g_know Tk Tryd.func31 rfl (fun h1 => ?_) (fun h1 => ?_) | refine s_know Tk (fun h1 => ?_) (fun h1 => ?_)
  · have h1 := bneT h1
    rw [if_pos h1] at hR
    subst hR
    refine g_ret_co Tk (r := _) rfl rfl rfl trivial rfl rfl ?_
    repeat' (first | refine coD_tup ?_ | refine coD_agg ?_ | refine coD_i ?_ | refine CoDL.cons ?_ ?_ | exact CoDL.nil | exact coI_nil | refine coI_sl ?_ | refine CoLL.cons ?_ ?_ | exact CoLL.nil | refine CoL.cons ?_ ?_ | exact CoL.nil | exact CoI.refl _ | exact CoL.refl _ | exact CoLL.refl _ | exact CoDL.refl _ | exact CoD.refl _)
  have h1 := bneF h1
  rw [if_neg (by simpa using h1)] at hR
  rw [hR] at ht
  first | refine g_call Tk Tryd.func31 (ht _) rfl rfl rfl rfl rfl ?_ | refine s_callq Tk (fun _ => ht _) rfl rfl rfl ?_
  refine g_ret Tk (r := .tup [bools R.1, ii R.2]) rfl rfl rfl trivial rfl rfl ?_
  rfl
end Go.AI


/- Equal lists, boxes that contain values, searches in lists of boxes and of values. -/
namespace Go.AI
open Go.Proofs
set_option maxRecDepth 20000
abbrev bxI (b : Bx) : List I := [intsI b.low, intsI b.high]
abbrev bxD (b : Bx) : D := .agg [ints b.low, ints b.high]
abbrev bxs (l : List Bx) : D := .i (.sl 2 l.length (l.map bxI))
abbrev obxs (l : List Bx) : Ob := .arr 55 2 l.length (l.map bxI) true
theorem obxs_app (l : List Bx) (x : Bx) : Ob.arr 55 2 (l.length + 1) (l.map bxI ++ [bxI x]) true = obxs (l ++ [x]) := by simp
theorem sameInts36 (O : List Heap) (a b : List Int) (ha : a.length ≤ max63) : ASpec Tryd.prog 36 [ints a, ints b] O (bb (decide (a = b))) [] O := by
  refine aspec_intro Tk Tryd.func36 rfl Tryd.call36 Tryd.ntmps36 (Nat.le_of_ble_eq_true rfl) fun E => ?_
  refine g_run Tk Tryd.func36 ?_
  first | refine g_cnd Tk Tryd.func36 rfl (fun h1 => ?_) (fun h1 => ?_) | refine g_know Tk Tryd.func36 rfl (fun h1 => ?_) (fun h1 => ?_) | refine s_know Tk (fun h1 => ?_) (fun h1 => ?_)
  · have h1 := bneT h1
    rw [decide_eq_false fun e => h1 (by rw [e])]
    refine g_ret Tk (r := bb false) rfl rfl rfl trivial rfl rfl ?_
    rfl
  have h1 := bneF h1
  have hlen : a.length = b.length := by
    have : ((a.length : Nat) : Int) = b.length := by simpa using h1
    omega
  refine g_loop ?_
  refine rch_loop2 (fun i : Nat => [(0, ints a), (1, ints b), (5, ii i)]) (fun _ => []) (fun _ => O) 26
    (fun i => i ≤ a.length ∧ ∀ (j : Nat) (h : j < a.length), j < i → a[j] = b[j]'(by omega)) (fun i => a.length - i) 0 ⟨Nat.zero_le _, fun j _ h => by omega⟩ ⟨rfl, rfl, rfl, trivial⟩ rfl trivial rfl rfl ?_
  rintro i ⟨hi, hno⟩ ih
  refine g_run Tk Tryd.func36 ?_
  first | refine g_cnd Tk Tryd.func36 rfl (fun h2 => ?_) (fun h2 => ?_) | refine g_know Tk Tryd.func36 rfl (fun h2 => ?_) (fun h2 => ?_) | refine s_know Tk (fun h2 => ?_) (fun h2 => ?_)
  · have h2 : i < a.length := by simpa using h2
    have ga : (a.map fun x => [vi x])[(i : Int).toNat]? = some [(fun x => vi x) a[i]] := get_mapZ (f := fun x => [vi x]) h2
    have gb : (b.map fun x => [vi x])[(i : Int).toNat]? = some [(fun x => vi x) (b[i]'(by omega))] := get_mapZ (f := fun x => [vi x]) (by omega)
    have hne : a[i] ≠ b[i]'(by omega) → a ≠ b := fun h e => by subst e; exact h rfl
    have hstep : a[i] = b[i]'(by omega) → ∀ (j : Nat) (h : j < a.length), j < i + 1 → a[j] = b[j]'(by omega) := fun h j hj hji => by
      by_cases e : j = i
      · subst e; exact h
      · exact hno j hj (by omega)
    generalize a[i] = x at *
    generalize b[i]'(by omega) = y at *
    refine g_drawn Tk Tryd.func36 mixedT rfl ?_
    first | refine g_need Tk Tryd.func36 (by exact ⟨by omega, by show (i : Int) < (a.length : Int); omega⟩) ?_ | refine s_need Tk (by exact ⟨by omega, by show (i : Int) < (a.length : Int); omega⟩) ?_
    first | refine g_elem Tk Tryd.func36 (ga) ?_ | refine s_elem Tk (ga) ?_
    first | refine g_need Tk Tryd.func36 (by exact ⟨by omega, by show (i : Int) < (b.length : Int); omega⟩) ?_ | refine s_need Tk (by exact ⟨by omega, by show (i : Int) < (b.length : Int); omega⟩) ?_
    first | refine g_elem Tk Tryd.func36 (gb) ?_ | refine s_elem Tk (gb) ?_
    refine e_done Tk Tryd.func36 (by kernel_rfl) ?_
    first | refine g_cnd Tk Tryd.func36 rfl (fun h3 => ?_) (fun h3 => ?_) | refine g_know Tk Tryd.func36 rfl (fun h3 => ?_) (fun h3 => ?_) | refine s_know Tk (fun h3 => ?_) (fun h3 => ?_)
    · have h3 : x ≠ y := by simpa using h3
      rw [decide_eq_false (hne h3)]
      refine g_ret Tk (r := bb false) rfl rfl rfl trivial rfl rfl ?_
      rfl
    · have h3 : x = y := by simpa using h3
      refine g_loop ?_
      exact ih (i + 1) _ _ ⟨h2, hstep h3⟩ (by omega) ⟨rfl, rfl, congrArg ii (wsucc h2 ha), trivial⟩ rfl trivial rfl rfl
  · have h2 : a.length ≤ i := by simpa using h2
    have : a = b := List.ext_getElem hlen fun j h h' => hno j h (by omega)
    rw [decide_eq_true this]
    refine g_ret Tk (r := bb true) rfl rfl rfl trivial rfl rfl ?_
    rfl
theorem sameTable32 (O : List Heap) (a b : List Bool) (ha : a.length ≤ max63) : ASpec Tryd.prog 32 [bools a, bools b] O (bb (decide (a = b))) [] O := by
  refine aspec_intro Tk Tryd.func32 rfl Tryd.call32 Tryd.ntmps32 (Nat.le_of_ble_eq_true rfl) fun E => ?_
  refine g_run Tk Tryd.func32 ?_
  first | refine g_cnd Tk Tryd.func32 rfl (fun h1 => ?_) (fun h1 => ?_) | refine g_know Tk Tryd.func32 rfl (fun h1 => ?_) (fun h1 => ?_) | refine s_know Tk (fun h1 => ?_) (fun h1 => ?_)
  · have h1 := bneT h1
    rw [decide_eq_false fun e => h1 (by rw [e])]
    refine g_ret Tk (r := bb false) rfl rfl rfl trivial rfl rfl ?_
    rfl
  have h1 := bneF h1
  have hlen : a.length = b.length := by
    have : ((a.length : Nat) : Int) = b.length := by simpa using h1
    omega
  refine g_loop ?_
  refine rch_loop2 (fun i : Nat => [(0, bools a), (1, bools b), (5, ii i)]) (fun _ => []) (fun _ => O) 26
    (fun i => i ≤ a.length ∧ ∀ (j : Nat) (h : j < a.length), j < i → a[j] = b[j]'(by omega)) (fun i => a.length - i) 0 ⟨Nat.zero_le _, fun j _ h => by omega⟩ ⟨rfl, rfl, rfl, trivial⟩ rfl trivial rfl rfl ?_
  rintro i ⟨hi, hno⟩ ih
  refine g_run Tk Tryd.func32 ?_
  first | refine g_cnd Tk Tryd.func32 rfl (fun h2 => ?_) (fun h2 => ?_) | refine g_know Tk Tryd.func32 rfl (fun h2 => ?_) (fun h2 => ?_) | refine s_know Tk (fun h2 => ?_) (fun h2 => ?_)
  · have h2 : i < a.length := by simpa using h2
    have ga : (a.map fun x => [I.v (.bool x)])[(i : Int).toNat]? = some [(fun x => I.v (.bool x)) a[i]] := get_mapZ (f := fun x => [I.v (.bool x)]) h2
    have gb : (b.map fun x => [I.v (.bool x)])[(i : Int).toNat]? = some [(fun x => I.v (.bool x)) (b[i]'(by omega))] := get_mapZ (f := fun x => [I.v (.bool x)]) (by omega)
    have hne : a[i] ≠ b[i]'(by omega) → a ≠ b := fun h e => by subst e; exact h rfl
    have hstep : a[i] = b[i]'(by omega) → ∀ (j : Nat) (h : j < a.length), j < i + 1 → a[j] = b[j]'(by omega) := fun h j hj hji => by
      by_cases e : j = i
      · subst e; exact h
      · exact hno j hj (by omega)
    generalize a[i] = x at *
    generalize b[i]'(by omega) = y at *
    refine g_drawn Tk Tryd.func32 mixedT rfl ?_
    first | refine g_need Tk Tryd.func32 (by exact ⟨by omega, by show (i : Int) < (a.length : Int); omega⟩) ?_ | refine s_need Tk (by exact ⟨by omega, by show (i : Int) < (a.length : Int); omega⟩) ?_
    first | refine g_elem Tk Tryd.func32 (ga) ?_ | refine s_elem Tk (ga) ?_
    first | refine g_need Tk Tryd.func32 (by exact ⟨by omega, by show (i : Int) < (b.length : Int); omega⟩) ?_ | refine s_need Tk (by exact ⟨by omega, by show (i : Int) < (b.length : Int); omega⟩) ?_
    first | refine g_elem Tk Tryd.func32 (gb) ?_ | refine s_elem Tk (gb) ?_
    refine e_done Tk Tryd.func32 (by kernel_rfl) ?_
    first | refine g_cnd Tk Tryd.func32 rfl (fun h3 => ?_) (fun h3 => ?_) | refine g_know Tk Tryd.func32 rfl (fun h3 => ?_) (fun h3 => ?_) | refine s_know Tk (fun h3 => ?_) (fun h3 => ?_)
    · have h3 : x ≠ y := by simpa using h3
      rw [decide_eq_false (hne h3)]
      refine g_ret Tk (r := bb false) rfl rfl rfl trivial rfl rfl ?_
      rfl
    · have h3 : x = y := by simpa using h3
      refine g_loop ?_
      exact ih (i + 1) _ _ ⟨h2, hstep h3⟩ (by omega) ⟨rfl, rfl, congrArg ii (wsucc h2 ha), trivial⟩ rfl trivial rfl rfl
  · have h2 : a.length ≤ i := by simpa using h2
    have : a = b := List.ext_getElem hlen fun j h h' => hno j h (by omega)
    rw [decide_eq_true this]
    refine g_ret Tk (r := bb true) rfl rfl rfl trivial rfl rfl ?_
    rfl
theorem contains152 (O : List Heap) (b : Bx) (v : List Int) (h1 : v.length ≤ b.low.length) (h2 : v.length ≤ b.high.length) (hl : v.length ≤ max63) : ASpec Tryd.prog 152 [bxD b, ints v] O (bb (b.has v)) [] O := by
  obtain ⟨lo, hi⟩ := b
  unfold Bx.has
  simp only at h1 h2 ⊢
  generalize hR : contB v lo hi = R
  refine aspec_intro Tk Tryd.func152 rfl Tryd.call152 Tryd.ntmps152 (Nat.le_of_ble_eq_true rfl) fun E => ?_
  refine g_run Tk Tryd.func152 ?_
  refine g_loop ?_
  refine rch_loop2 (fun i : Nat => [(2, .own 0 2 0 0), (7, ints v), (8, ii v.length), (9, ii i)]) (fun i => [(2, .box [ints lo, ints hi])]) (fun _ => O) 31
    (fun i => i ≤ v.length ∧ contB (v.drop i) (lo.drop i) (hi.drop i) = R) (fun i => v.length - i) 0 ⟨Nat.zero_le _, hR⟩ ⟨rfl, rfl, rfl, rfl, trivial⟩ rfl ⟨rfl, trivial⟩ rfl rfl ?_
  rintro i ⟨hi', hno⟩ ih
  clear hR
  refine g_run Tk Tryd.func152 ?_
  first | refine g_cnd Tk Tryd.func152 rfl (fun g1 => ?_) (fun g1 => ?_) | refine g_know Tk Tryd.func152 rfl (fun g1 => ?_) (fun g1 => ?_) | refine s_know Tk (fun g1 => ?_) (fun g1 => ?_)
  · have h3 : i < v.length := by simpa using g1
    have gv : (v.map fun x => [vi x])[(i : Int).toNat]? = some [vi v[i]] := get_mapZ (f := fun x => [vi x]) h3
    have gl : (lo.map fun x => [vi x])[(i : Int).toNat]? = some [vi (lo[i]'(by omega))] := get_mapZ (f := fun x => [vi x]) (by omega)
    have gh : (hi.map fun x => [vi x])[(i : Int).toNat]? = some [vi (hi[i]'(by omega))] := get_mapZ (f := fun x => [vi x]) (by omega)
    have dv : v.drop i = v[i] :: v.drop (i + 1) := List.drop_eq_getElem_cons h3
    have dl : lo.drop i = (lo[i]'(by omega)) :: lo.drop (i + 1) := List.drop_eq_getElem_cons (by omega)
    have dh : hi.drop i = (hi[i]'(by omega)) :: hi.drop (i + 1) := List.drop_eq_getElem_cons (by omega)
    rw [dv, dl, dh] at hno
    simp only [contB] at hno
    clear dv dl dh
    generalize v[i] = x at *
    generalize lo[i]'(by omega) = a at *
    generalize hi[i]'(by omega) = c at *
    first | refine g_need Tk Tryd.func152 (by exact ⟨by omega, by show (i : Int) < (v.length : Int); omega⟩) ?_ | refine s_need Tk (by exact ⟨by omega, by show (i : Int) < (v.length : Int); omega⟩) ?_
    first | refine g_elem Tk Tryd.func152 (gv) ?_ | refine s_elem Tk (gv) ?_
    first | refine g_need Tk Tryd.func152 (by exact ⟨by omega, by show (i : Int) < (lo.length : Int); omega⟩) ?_ | refine s_need Tk (by exact ⟨by omega, by show (i : Int) < (lo.length : Int); omega⟩) ?_
    first | refine g_elem Tk Tryd.func152 (gl) ?_ | refine s_elem Tk (gl) ?_
    first | refine g_cnd Tk Tryd.func152 rfl (fun h4 => ?_) (fun h4 => ?_) | refine g_know Tk Tryd.func152 rfl (fun h4 => ?_) (fun h4 => ?_) | refine s_know Tk (fun h4 => ?_) (fun h4 => ?_)
    · have h4 : x < a := of_decide_eq_true h4
      have : R = false := by rw [← hno]; simp [h4]
      subst this
      repeat (first | refine g_cnd Tk Tryd.func152 rfl (fun _ => ?_) (fun h => absurd h (by decide)) | refine g_cnd Tk Tryd.func152 rfl (fun h => absurd h (by decide)) (fun _ => ?_) | refine g_know Tk Tryd.func152 rfl (fun _ => ?_) (fun h => absurd h (by decide)) | refine g_know Tk Tryd.func152 rfl (fun h => absurd h (by decide)) (fun _ => ?_) | refine s_know Tk (fun _ => ?_) (fun h => absurd h (by decide)) | refine s_know Tk (fun h => absurd h (by decide)) (fun _ => ?_))
      refine g_ret Tk (r := bb false) rfl rfl rfl trivial rfl rfl ?_
      rfl
    have h4 : ¬ x < a := of_decide_eq_false h4
    first | refine g_need Tk Tryd.func152 (by exact ⟨by omega, by show (i : Int) < (hi.length : Int); omega⟩) ?_ | refine s_need Tk (by exact ⟨by omega, by show (i : Int) < (hi.length : Int); omega⟩) ?_
    first | refine g_elem Tk Tryd.func152 (gh) ?_ | refine s_elem Tk (gh) ?_
    first | refine g_cnd Tk Tryd.func152 rfl (fun h5 => ?_) (fun h5 => ?_) | refine g_know Tk Tryd.func152 rfl (fun h5 => ?_) (fun h5 => ?_) | refine s_know Tk (fun h5 => ?_) (fun h5 => ?_)
    · have h5 : c < x := of_decide_eq_true h5
      have : R = false := by rw [← hno]; simp [h5]
      subst this
      refine g_ret Tk (r := bb false) rfl rfl rfl trivial rfl rfl ?_
      rfl
    have h5 : ¬ c < x := of_decide_eq_false h5
    have hno : contB (v.drop (i + 1)) (lo.drop (i + 1)) (hi.drop (i + 1)) = R := by rw [← hno]; simp [h4, h5]
    refine g_loop ?_
    exact ih (i + 1) _ _ ⟨h3, hno⟩ (by omega) ⟨rfl, rfl, rfl, congrArg ii (wsucc h3 hl), trivial⟩ rfl ⟨rfl, trivial⟩ rfl rfl
  · have h3 : v.length ≤ i := by simpa using g1
    rw [List.drop_eq_nil_of_le h3] at hno
    have : R = true := by rw [← hno]; cases lo.drop i <;> cases hi.drop i <;> rfl
    subst this
    refine g_ret Tk (r := bb true) rfl rfl rfl trivial rfl rfl ?_
    rfl
theorem contains152o (O : List Heap) (b : Bx) (v : List Int) (d n1 n2 : Nat) (ho1 : objAt O d n1 = some (oints b.low)) (ho2 : objAt O d n2 = some (oints b.high)) (h1 : v.length ≤ b.low.length) (h2 : v.length ≤ b.high.length) (hl : v.length ≤ max63) : ASpec Tryd.prog 152 [.agg [.osl d n1, .osl d n2], ints v] O (bb (b.has v)) [] O := by
  obtain ⟨lo, hi⟩ := b
  unfold Bx.has
  simp only at h1 h2 ho1 ho2 ⊢
  generalize hR : contB v lo hi = R
  refine aspec_intro Tk Tryd.func152 rfl Tryd.call152 Tryd.ntmps152 (Nat.le_of_ble_eq_true rfl) fun E => ?_
  refine g_run Tk Tryd.func152 ?_
  refine g_loop ?_
  refine rch_loop2 (fun i : Nat => [(2, .own 0 2 0 0), (7, ints v), (8, ii v.length), (9, ii i)]) (fun i => [(2, .box [.osl (d + 1) n1, .osl (d + 1) n2])]) (fun _ => O) 31
    (fun i => i ≤ v.length ∧ contB (v.drop i) (lo.drop i) (hi.drop i) = R) (fun i => v.length - i) 0 ⟨Nat.zero_le _, hR⟩ ⟨rfl, rfl, rfl, rfl, trivial⟩ rfl ⟨rfl, trivial⟩ rfl rfl ?_
  rintro i ⟨hi', hno⟩ ih
  clear hR
  refine g_run Tk Tryd.func152 ?_
  first | refine g_cnd Tk Tryd.func152 rfl (fun g1 => ?_) (fun g1 => ?_) | refine g_know Tk Tryd.func152 rfl (fun g1 => ?_) (fun g1 => ?_) | refine s_know Tk (fun g1 => ?_) (fun g1 => ?_)
  · have h3 : i < v.length := by simpa using g1
    have gv : (v.map fun x => [vi x])[(i : Int).toNat]? = some [vi v[i]] := get_mapZ (f := fun x => [vi x]) h3
    have gl : (lo.map fun x => [vi x])[(i : Int).toNat]? = some [vi (lo[i]'(by omega))] := get_mapZ (f := fun x => [vi x]) (by omega)
    have gh : (hi.map fun x => [vi x])[(i : Int).toNat]? = some [vi (hi[i]'(by omega))] := get_mapZ (f := fun x => [vi x]) (by omega)
    have dv : v.drop i = v[i] :: v.drop (i + 1) := List.drop_eq_getElem_cons h3
    have dl : lo.drop i = (lo[i]'(by omega)) :: lo.drop (i + 1) := List.drop_eq_getElem_cons (by omega)
    have dh : hi.drop i = (hi[i]'(by omega)) :: hi.drop (i + 1) := List.drop_eq_getElem_cons (by omega)
    rw [dv, dl, dh] at hno
    simp only [contB] at hno
    clear dv dl dh
    generalize v[i] = x at *
    generalize lo[i]'(by omega) = a at *
    generalize hi[i]'(by omega) = c at *
    first | refine g_need Tk Tryd.func152 (by exact ⟨by omega, by show (i : Int) < (v.length : Int); omega⟩) ?_ | refine s_need Tk (by exact ⟨by omega, by show (i : Int) < (v.length : Int); omega⟩) ?_
    first | refine g_elem Tk Tryd.func152 (gv) ?_ | refine s_elem Tk (gv) ?_
    first | refine g_obj Tk Tryd.func152 (up_obj ho1) ?_ | refine s_obj Tk (up_obj ho1) ?_
    first | refine g_need Tk Tryd.func152 (by exact ⟨by omega, by show (i : Int) < (lo.length : Int); omega⟩) ?_ | refine s_need Tk (by exact ⟨by omega, by show (i : Int) < (lo.length : Int); omega⟩) ?_
    first | refine g_obj Tk Tryd.func152 (up_obj ho1) ?_ | refine s_obj Tk (up_obj ho1) ?_
    first | refine g_elem Tk Tryd.func152 (gl) ?_ | refine s_elem Tk (gl) ?_
    first | refine g_cnd Tk Tryd.func152 rfl (fun h4 => ?_) (fun h4 => ?_) | refine g_know Tk Tryd.func152 rfl (fun h4 => ?_) (fun h4 => ?_) | refine s_know Tk (fun h4 => ?_) (fun h4 => ?_)
    · have h4 : x < a := of_decide_eq_true h4
      have : R = false := by rw [← hno]; simp [h4]
      subst this
      repeat (first | refine g_cnd Tk Tryd.func152 rfl (fun _ => ?_) (fun h => absurd h (by decide)) | refine g_cnd Tk Tryd.func152 rfl (fun h => absurd h (by decide)) (fun _ => ?_) | refine g_know Tk Tryd.func152 rfl (fun _ => ?_) (fun h => absurd h (by decide)) | refine g_know Tk Tryd.func152 rfl (fun h => absurd h (by decide)) (fun _ => ?_) | refine s_know Tk (fun _ => ?_) (fun h => absurd h (by decide)) | refine s_know Tk (fun h => absurd h (by decide)) (fun _ => ?_))
      refine g_ret Tk (r := bb false) rfl rfl rfl trivial rfl rfl ?_
      rfl
    have h4 : ¬ x < a := of_decide_eq_false h4
    first | refine g_obj Tk Tryd.func152 (up_obj ho2) ?_ | refine s_obj Tk (up_obj ho2) ?_
    first | refine g_need Tk Tryd.func152 (by exact ⟨by omega, by show (i : Int) < (hi.length : Int); omega⟩) ?_ | refine s_need Tk (by exact ⟨by omega, by show (i : Int) < (hi.length : Int); omega⟩) ?_
    first | refine g_obj Tk Tryd.func152 (up_obj ho2) ?_ | refine s_obj Tk (up_obj ho2) ?_
    first | refine g_elem Tk Tryd.func152 (gh) ?_ | refine s_elem Tk (gh) ?_
    first | refine g_cnd Tk Tryd.func152 rfl (fun h5 => ?_) (fun h5 => ?_) | refine g_know Tk Tryd.func152 rfl (fun h5 => ?_) (fun h5 => ?_) | refine s_know Tk (fun h5 => ?_) (fun h5 => ?_)
    · have h5 : c < x := of_decide_eq_true h5
      have : R = false := by rw [← hno]; simp [h5]
      subst this
      refine g_ret Tk (r := bb false) rfl rfl rfl trivial rfl rfl ?_
      rfl
    have h5 : ¬ c < x := of_decide_eq_false h5
    have hno : contB (v.drop (i + 1)) (lo.drop (i + 1)) (hi.drop (i + 1)) = R := by rw [← hno]; simp [h4, h5]
    refine g_loop ?_
    exact ih (i + 1) _ _ ⟨h3, hno⟩ (by omega) ⟨rfl, rfl, rfl, congrArg ii (wsucc h3 hl), trivial⟩ rfl ⟨rfl, trivial⟩ rfl rfl
  · have h3 : v.length ≤ i := by simpa using g1
    rw [List.drop_eq_nil_of_le h3] at hno
    have : R = true := by rw [← hno]; cases lo.drop i <;> cases hi.drop i <;> rfl
    subst this
    refine g_ret Tk (r := bb true) rfl rfl rfl trivial rfl rfl ?_
    rfl
end Go.AI


/- Searches with closures; whether a box is free. -/
namespace Go.AI
open Go.Proofs
set_option maxRecDepth 20000
theorem indexFunc187a (O : List Heap) (l : List (List Int)) (f : Nat) (d n1 n2 : Nat) (p : (List Int) → Bool) (hl : l.length ≤ max63) (hp : ∀ x ∈ l, ASpec Tryd.prog f [.agg [.osl (d + 1) n1, .osl (d + 1) n2], ints x] ([] :: O) (bb (p x)) [] ([] :: O)) :
    ASpec Tryd.prog 187 [intss l, .fn (.func f) [.agg [.osl d n1, .osl d n2]] []] O (ii (findIx p l 0)) [] O := by
  refine aspec_intro Tk Tryd.func187 rfl Tryd.call187 Tryd.ntmps187 (Nat.le_of_ble_eq_true rfl) fun E => ?_
  refine g_run Tk Tryd.func187 ?_
  refine g_loop ?_
  refine rch_loop2 (fun i : Nat => [(0, intss l), (1, .fn (.func f) [.agg [.osl (d + 1) n1, .osl (d + 1) n2]] []), (6, intss l), (7, ii l.length), (8, ii i)]) (fun _ => []) (fun _ => O) 19 (fun i => i ≤ l.length ∧ findIx p l 0 = findIx p (l.drop i) i) (fun i => l.length - i) 0 ⟨Nat.zero_le _, rfl⟩ ⟨rfl, rfl, rfl, rfl, rfl, trivial⟩ rfl trivial rfl rfl ?_
  intro i ⟨hi, hno⟩ ih
  rw [hno]
  rw [hno] at ih
  refine g_run Tk Tryd.func187 ?_
  first | refine g_cnd Tk Tryd.func187 rfl (fun h1 => ?_) (fun h1 => ?_) | refine g_know Tk Tryd.func187 rfl (fun h1 => ?_) (fun h1 => ?_) | refine s_know Tk (fun h1 => ?_) (fun h1 => ?_)
  · have h1 : i < l.length := by simpa using h1
    have hd : l.drop i = l[i] :: l.drop (i + 1) := (List.drop_eq_getElem_cons h1)
    first | refine g_need Tk Tryd.func187 (by omega) ?_ | refine s_need Tk (by omega) ?_
    first | refine g_elem Tk Tryd.func187 (get_mapZ (f := fun x => [intsI x]) h1) ?_ | refine s_elem Tk (get_mapZ (f := fun x => [intsI x]) h1) ?_
    first | refine g_call Tk Tryd.func187 (hp l[i] (List.getElem_mem h1)) rfl rfl rfl rfl rfl ?_ | refine s_callq Tk (fun _ => hp l[i] (List.getElem_mem h1)) rfl rfl rfl ?_
    first | refine g_cnd Tk Tryd.func187 rfl (fun h2 => ?_) (fun h2 => ?_) | refine g_know Tk Tryd.func187 rfl (fun h2 => ?_) (fun h2 => ?_) | refine s_know Tk (fun h2 => ?_) (fun h2 => ?_)
    · refine g_ret Tk (r := ii _) rfl rfl rfl trivial rfl rfl ?_
      rw [hd]
      simp only [findIx]
      rw [if_pos h2]
    · refine g_loop ?_
      refine ih (i + 1) _ _ ⟨h1, ?_⟩ (by omega) ⟨rfl, rfl, rfl, rfl, congrArg ii (wsucc h1 hl), trivial⟩ rfl trivial rfl rfl
      rw [hd]
      simp only [findIx]
      rw [if_neg (by rw [h2]; simp)]
  · have h1 : l.length ≤ i := by simpa using h1
    refine g_ret Tk (r := ii _) rfl rfl rfl trivial rfl rfl ?_
    rw [List.drop_eq_nil_of_le h1]
    rfl
theorem containsFunc170a (O : List Heap) (l : List (List Int)) (f : Nat) (d n1 n2 : Nat) (p : (List Int) → Bool) (hl : l.length ≤ max63) (hp : ∀ x ∈ l, ASpec Tryd.prog f [.agg [.osl (d + 2) n1, .osl (d + 2) n2], ints x] ([] :: [] :: O) (bb (p x)) [] ([] :: [] :: O)) :
    ASpec Tryd.prog 170 [intss l, .fn (.func f) [.agg [.osl d n1, .osl d n2]] []] O (bb (l.any p)) [] O := by
  refine aspec_intro Tk Tryd.func170 rfl Tryd.call170 Tryd.ntmps170 (Nat.le_of_ble_eq_true rfl) fun E => ?_
  refine g_run Tk Tryd.func170 ?_
  first | refine g_call Tk Tryd.func170 (indexFunc187a _ l f (d + 1) n1 n2 p hl hp) rfl rfl rfl rfl rfl ?_ | refine s_callq Tk (fun _ => indexFunc187a _ l f (d + 1) n1 n2 p hl hp) rfl rfl rfl ?_
  refine g_ret Tk (r := bb _) rfl rfl rfl trivial rfl rfl ?_
  exact congrArg bb (findIx_any p l 0)
theorem indexFunc187c (O : List Heap) (l : List (List Int)) (f : Nat) (d n1 n2 n3 : Nat) (p : (List Int) → Bool) (hl : l.length ≤ max63) (hp : ∀ x ∈ l, ASpec Tryd.prog f [ints x, .own (d + 1) n1 0 0, .own (d + 1) n2 0 0, .own (d + 1) n3 0 0] ([] :: O) (bb (p x)) [] ([] :: O)) :
    ASpec Tryd.prog 187 [intss l, .fn (.func f) [] [.own d n1 0 0, .own d n2 0 0, .own d n3 0 0]] O (ii (findIx p l 0)) [] O := by
  refine aspec_intro Tk Tryd.func187 rfl Tryd.call187 Tryd.ntmps187 (Nat.le_of_ble_eq_true rfl) fun E => ?_
  refine g_run Tk Tryd.func187 ?_
  refine g_loop ?_
  refine rch_loop2 (fun i : Nat => [(0, intss l), (1, .fn (.func f) [] [.own (d + 1) n1 0 0, .own (d + 1) n2 0 0, .own (d + 1) n3 0 0]), (6, intss l), (7, ii l.length), (8, ii i)]) (fun _ => []) (fun _ => O) 19 (fun i => i ≤ l.length ∧ findIx p l 0 = findIx p (l.drop i) i) (fun i => l.length - i) 0 ⟨Nat.zero_le _, rfl⟩ ⟨rfl, rfl, rfl, rfl, rfl, trivial⟩ rfl trivial rfl rfl ?_
  intro i ⟨hi, hno⟩ ih
  rw [hno]
  rw [hno] at ih
  refine g_run Tk Tryd.func187 ?_
  first | refine g_cnd Tk Tryd.func187 rfl (fun h1 => ?_) (fun h1 => ?_) | refine g_know Tk Tryd.func187 rfl (fun h1 => ?_) (fun h1 => ?_) | refine s_know Tk (fun h1 => ?_) (fun h1 => ?_)
  · have h1 : i < l.length := by simpa using h1
    have hd : l.drop i = l[i] :: l.drop (i + 1) := (List.drop_eq_getElem_cons h1)
    first | refine g_need Tk Tryd.func187 (by omega) ?_ | refine s_need Tk (by omega) ?_
    first | refine g_elem Tk Tryd.func187 (get_mapZ (f := fun x => [intsI x]) h1) ?_ | refine s_elem Tk (get_mapZ (f := fun x => [intsI x]) h1) ?_
    first | refine g_call Tk Tryd.func187 (hp l[i] (List.getElem_mem h1)) rfl rfl rfl rfl rfl ?_ | refine s_callq Tk (fun _ => hp l[i] (List.getElem_mem h1)) rfl rfl rfl ?_
    first | refine g_cnd Tk Tryd.func187 rfl (fun h2 => ?_) (fun h2 => ?_) | refine g_know Tk Tryd.func187 rfl (fun h2 => ?_) (fun h2 => ?_) | refine s_know Tk (fun h2 => ?_) (fun h2 => ?_)
    · refine g_ret Tk (r := ii _) rfl rfl rfl trivial rfl rfl ?_
      rw [hd]
      simp only [findIx]
      rw [if_pos h2]
    · refine g_loop ?_
      refine ih (i + 1) _ _ ⟨h1, ?_⟩ (by omega) ⟨rfl, rfl, rfl, rfl, congrArg ii (wsucc h1 hl), trivial⟩ rfl trivial rfl rfl
      rw [hd]
      simp only [findIx]
      rw [if_neg (by rw [h2]; simp)]
  · have h1 : l.length ≤ i := by simpa using h1
    refine g_ret Tk (r := ii _) rfl rfl rfl trivial rfl rfl ?_
    rw [List.drop_eq_nil_of_le h1]
    rfl
theorem containsFunc170c (O : List Heap) (l : List (List Int)) (f : Nat) (d n1 n2 n3 : Nat) (p : (List Int) → Bool) (hl : l.length ≤ max63) (hp : ∀ x ∈ l, ASpec Tryd.prog f [ints x, .own (d + 2) n1 0 0, .own (d + 2) n2 0 0, .own (d + 2) n3 0 0] ([] :: [] :: O) (bb (p x)) [] ([] :: [] :: O)) :
    ASpec Tryd.prog 170 [intss l, .fn (.func f) [] [.own d n1 0 0, .own d n2 0 0, .own d n3 0 0]] O (bb (l.any p)) [] O := by
  refine aspec_intro Tk Tryd.func170 rfl Tryd.call170 Tryd.ntmps170 (Nat.le_of_ble_eq_true rfl) fun E => ?_
  refine g_run Tk Tryd.func170 ?_
  first | refine g_call Tk Tryd.func170 (indexFunc187c _ l f (d + 1) n1 n2 n3 p hl hp) rfl rfl rfl rfl rfl ?_ | refine s_callq Tk (fun _ => indexFunc187c _ l f (d + 1) n1 n2 n3 p hl hp) rfl rfl rfl ?_
  refine g_ret Tk (r := bb _) rfl rfl rfl trivial rfl rfl ?_
  exact congrArg bb (findIx_any p l 0)
theorem indexFunc176 (O : List Heap) (l : List Bx) (f : Nat) (d nm : Nat) (p : Bx → Bool) (hl : l.length ≤ max63) (hp : ∀ x ∈ l, ASpec Tryd.prog f [bxD x, .own (d + 1) nm 0 0] ([] :: O) (bb (p x)) [] ([] :: O)) :
    ASpec Tryd.prog 176 [bxs l, .fn (.func f) [] [.own d nm 0 0]] O (ii (findIx p l 0)) [] O := by
  refine aspec_intro Tk Tryd.func176 rfl Tryd.call176 Tryd.ntmps176 (Nat.le_of_ble_eq_true rfl) fun E => ?_
  refine g_run Tk Tryd.func176 ?_
  refine g_loop ?_
  refine rch_loop2 (fun i : Nat => [(0, bxs l), (1, .fn (.func f) [] [.own (d + 1) nm 0 0]), (6, bxs l), (7, ii l.length), (8, ii i)]) (fun _ => []) (fun _ => O) 19 (fun i => i ≤ l.length ∧ findIx p l 0 = findIx p (l.drop i) i) (fun i => l.length - i) 0 ⟨Nat.zero_le _, rfl⟩ ⟨rfl, rfl, rfl, rfl, rfl, trivial⟩ rfl trivial rfl rfl ?_
  intro i ⟨hi, hno⟩ ih
  rw [hno]
  rw [hno] at ih
  refine g_run Tk Tryd.func176 ?_
  first | refine g_cnd Tk Tryd.func176 rfl (fun h1 => ?_) (fun h1 => ?_) | refine g_know Tk Tryd.func176 rfl (fun h1 => ?_) (fun h1 => ?_) | refine s_know Tk (fun h1 => ?_) (fun h1 => ?_)
  · have h1 : i < l.length := by simpa using h1
    have hd : l.drop i = l[i] :: l.drop (i + 1) := (List.drop_eq_getElem_cons h1)
    first | refine g_need Tk Tryd.func176 (by omega) ?_ | refine s_need Tk (by omega) ?_
    first | refine g_elem Tk Tryd.func176 (get_mapZ (f := bxI) h1) ?_ | refine s_elem Tk (get_mapZ (f := bxI) h1) ?_
    first | refine g_call Tk Tryd.func176 (hp l[i] (List.getElem_mem h1)) rfl rfl rfl rfl rfl ?_ | refine s_callq Tk (fun _ => hp l[i] (List.getElem_mem h1)) rfl rfl rfl ?_
    first | refine g_cnd Tk Tryd.func176 rfl (fun h2 => ?_) (fun h2 => ?_) | refine g_know Tk Tryd.func176 rfl (fun h2 => ?_) (fun h2 => ?_) | refine s_know Tk (fun h2 => ?_) (fun h2 => ?_)
    · refine g_ret Tk (r := ii _) rfl rfl rfl trivial rfl rfl ?_
      rw [hd]
      simp only [findIx]
      rw [if_pos h2]
    · refine g_loop ?_
      refine ih (i + 1) _ _ ⟨h1, ?_⟩ (by omega) ⟨rfl, rfl, rfl, rfl, congrArg ii (wsucc h1 hl), trivial⟩ rfl trivial rfl rfl
      rw [hd]
      simp only [findIx]
      rw [if_neg (by rw [h2]; simp)]
  · have h1 : l.length ≤ i := by simpa using h1
    refine g_ret Tk (r := ii _) rfl rfl rfl trivial rfl rfl ?_
    rw [List.drop_eq_nil_of_le h1]
    rfl
theorem containsFunc150 (O : List Heap) (l : List Bx) (f : Nat) (d nm : Nat) (p : Bx → Bool) (hl : l.length ≤ max63) (hp : ∀ x ∈ l, ASpec Tryd.prog f [bxD x, .own (d + 2) nm 0 0] ([] :: [] :: O) (bb (p x)) [] ([] :: [] :: O)) :
    ASpec Tryd.prog 150 [bxs l, .fn (.func f) [] [.own d nm 0 0]] O (bb (l.any p)) [] O := by
  refine aspec_intro Tk Tryd.func150 rfl Tryd.call150 Tryd.ntmps150 (Nat.le_of_ble_eq_true rfl) fun E => ?_
  refine g_run Tk Tryd.func150 ?_
  first | refine g_call Tk Tryd.func150 (indexFunc176 _ l f (d + 1) nm p hl hp) rfl rfl rfl rfl rfl ?_ | refine s_callq Tk (fun _ => indexFunc176 _ l f (d + 1) nm p hl hp) rfl rfl rfl ?_
  refine g_ret Tk (r := bb _) rfl rfl rfl trivial rfl rfl ?_
  exact congrArg bb (findIx_any p l 0)

theorem in151 (O : List Heap) (b : Bx) (v : List Int) (d nm : Nat) (ho : objAt O d nm = some (.box [ints v])) (h1 : v.length ≤ b.low.length) (h2 : v.length ≤ b.high.length) (hl : v.length ≤ max63) : ASpec Tryd.prog 151 [bxD b, .own d nm 0 0] O (bb (b.has v)) [] O := by
  refine aspec_intro Tk Tryd.func151 rfl Tryd.call151 Tryd.ntmps151 (Nat.le_of_ble_eq_true rfl) fun E => ?_
  refine g_run Tk Tryd.func151 ?_
  first | refine g_obj Tk Tryd.func151 (up_obj ho) ?_ | refine s_obj Tk (up_obj ho) ?_
  first | refine g_call Tk Tryd.func151 (contains152 _ b v h1 h2 hl) rfl rfl rfl rfl rfl ?_ | refine s_callq Tk (fun _ => contains152 _ b v h1 h2 hl) rfl rfl rfl ?_
  refine g_ret Tk (r := bb _) rfl rfl rfl trivial rfl rfl ?_
  rfl
theorem in94 (O : List Heap) (l : List Bx) (v : List Int) (hll : l.length ≤ max63) (hb : ∀ b ∈ l, v.length ≤ b.low.length ∧ v.length ≤ b.high.length) (hl : v.length ≤ max63) : ASpec Tryd.prog 94 [bxs l, ints v] O (bb (inBs l v)) [] O := by
  refine aspec_intro Tk Tryd.func94 rfl Tryd.call94 Tryd.ntmps94 (Nat.le_of_ble_eq_true rfl) fun E => ?_
  refine g_run Tk Tryd.func94 ?_
  first | refine g_call Tk Tryd.func94 (containsFunc150 _ l 151 0 3 (fun b => b.has v) hll (fun b hm => in151 _ b v 2 3 rfl (hb b hm).1 (hb b hm).2 hl)) rfl rfl rfl rfl rfl ?_ | refine s_callq Tk (fun _ => containsFunc150 _ l 151 0 3 (fun b => b.has v) hll (fun b hm => in151 _ b v 2 3 rfl (hb b hm).1 (hb b hm).2 hl)) rfl rfl rfl ?_
  refine g_ret Tk (r := bb _) rfl rfl rfl trivial rfl rfl ?_
  rfl
theorem free186 (O : List Heap) (l : List Vr) (dom needed refused : List (List Int)) (b : Bx) (d n1 n2 : Nat) (ho1 : objAt O d n1 = some (oints b.low)) (ho2 : objAt O d n2 = some (oints b.high)) (hr : refused.length ≤ max63) (hv : ∀ v ∈ refused, v.length ≤ b.low.length ∧ v.length ≤ b.high.length ∧ v.length ≤ max63) :
    ASpec Tryd.prog 186 [.agg [vrs l, intss dom, intss needed, intss refused], .agg [.osl d n1, .osl d n2]] O (bb (freeR refused b)) [] O := by
  refine aspec_intro Tk Tryd.func186 rfl Tryd.call186 Tryd.ntmps186 (Nat.le_of_ble_eq_true rfl) fun E => ?_
  refine g_run Tk Tryd.func186 ?_
  first | refine g_call Tk Tryd.func186 (containsFunc170a _ refused 152 (d + 1) n1 n2 (fun v => b.has v) hr (fun v hm => contains152o _ b v (d + 1 + 2) n1 n2 (up_obj (up_obj (up_obj ho1))) (up_obj (up_obj (up_obj ho2))) (hv v hm).1 (hv v hm).2.1 (hv v hm).2.2)) rfl rfl rfl rfl rfl ?_ | refine s_callq Tk (fun _ => containsFunc170a _ refused 152 (d + 1) n1 n2 (fun v => b.has v) hr (fun v hm => contains152o _ b v (d + 1 + 2) n1 n2 (up_obj (up_obj (up_obj ho1))) (up_obj (up_obj (up_obj ho2))) (hv v hm).1 (hv v hm).2.1 (hv v hm).2.2)) rfl rfl rfl ?_
  refine g_ret Tk (r := bb _) rfl rfl rfl trivial rfl rfl ?_
  rfl
end Go.AI


/- Growing a box. -/
namespace Go.AI
open Go.Proofs
set_option maxRecDepth 20000
theorem oints_set (l : List Int) (i : Nat) (x : Int) : Ob.arr 3 1 l.length ((l.map fun x => [vi x]).set i [vi x]) true = oints (l.set i x) := by simp [List.map_set]
set_option maxHeartbeats 4000000 in
theorem grow167 (O : List Heap) (l : List Vr) (dom needed refused : List (List Int)) (v : List Int) (hl : l.length ≤ 16) (hb : ∀ a ∈ l, -65536 ≤ a.low ∧ a.high ≤ 65536) (hvl : v.length = l.length) (hvb : ∀ j, -65536 ≤ v.getD j 0 ∧ v.getD j 0 ≤ 65536) (hr : refused.length ≤ max63) (hrl : ∀ w ∈ refused, w.length = l.length) :
    ASpec Tryd.prog 167 [.agg [vrs l, intss dom, intss needed, intss refused], ints v] O (bxD (growVs (freeR refused) l 0 ⟨v, v⟩)) [] O := by
  have hfree := fun (O : List Heap) (b : Bx) (d n1 n2 : Nat) (e1 : b.low.length = l.length) (e2 : b.high.length = l.length) (ho1 : objAt O d n1 = some (oints b.low)) (ho2 : objAt O d n2 = some (oints b.high)) => free186 O l dom needed refused b d n1 n2 ho1 ho2 hr (fun w hw => by have := hrl w hw; simp only [max63]; omega)
  have hR0 : growVs (freeR refused) l 0 ⟨v, v⟩ = growVs (freeR refused) (l.drop 0) 0 ⟨v, v⟩ := rfl
  generalize growVs (freeR refused) l 0 ⟨v, v⟩ = R at *
  refine aspec_stop [7, 11] Tk Tryd.func167 rfl Tryd.call167 Tryd.ntmps167 (Nat.le_of_ble_eq_true rfl) fun E => ?_
  refine g_run Tk Tryd.func167 ?_
  first | refine g_call Tk Tryd.func167 (clone57 9 _ v (by simp only [big]; omega)) rfl rfl rfl rfl rfl ?_ | refine s_callq Tk (fun _ => clone57 9 _ v (by simp only [big]; omega)) rfl rfl rfl ?_
  first | refine g_call Tk Tryd.func167 (clone57 11 _ v (by simp only [big]; omega)) rfl rfl rfl rfl rfl ?_ | refine s_callq Tk (fun _ => clone57 11 _ v (by simp only [big]; omega)) rfl rfl rfl ?_
  refine g_loop ?_
  refine rch_loop2 (fun x : Nat × Bx => [(2, .own 0 2 0 0), (4, .own 0 4 0 0), (5, .own 0 5 0 0), (14, vrs l), (15, ii l.length), (16, ii x.1)]) (fun x => [(2, .box [vrs l, intss dom, intss needed, intss refused]), (4, .box [.i (.v (.slice none 0 0)), .i (.v (.slice none 0 0))]), (5, .box [.osl 0 9, .osl 0 11]), (9, oints x.2.low), (11, oints x.2.high)]) (fun _ => O) 75
    (fun x => x.1 ≤ l.length ∧ x.2.low.length = l.length ∧ x.2.high.length = l.length ∧ (∀ j, -65536 ≤ x.2.low.getD j 0 ∧ x.2.low.getD j 0 ≤ 65536) ∧ (∀ j, -65536 ≤ x.2.high.getD j 0 ∧ x.2.high.getD j 0 ≤ 65536) ∧ R = growVs (freeR refused) (l.drop x.1) x.1 x.2) (fun x => l.length - x.1) (0, ⟨v, v⟩)
    ⟨Nat.zero_le _, hvl, hvl, hvb, hvb, hR0⟩ ⟨rfl, rfl, rfl, rfl, rfl, rfl, trivial⟩ rfl ⟨rfl, rfl, rfl, rfl, rfl, trivial⟩ rfl rfl ?_
  clear hR0
  rintro ⟨i, ⟨lo, hi⟩⟩ ⟨hi', hlo, hhi, hbl, hbh, hno⟩ ih
  simp only at hi' hlo hhi hbl hbh hno
  refine g_run Tk Tryd.func167 ?_
  first | refine g_cnd Tk Tryd.func167 rfl (fun g1 => ?_) (fun g1 => ?_) | refine g_know Tk Tryd.func167 rfl (fun g1 => ?_) (fun g1 => ?_) | refine s_know Tk (fun g1 => ?_) (fun g1 => ?_)
  · have h1 : i < l.length := by simpa using g1
    clear g1
    have hg : (l.map vrI)[(i : Int).toNat]? = some (vrI l[i]) := get_mapZ h1
    have hd : l.drop i = l[i] :: l.drop (i + 1) := List.drop_eq_getElem_cons h1
    have hbi := hb _ (List.getElem_mem h1)
    rw [hd] at hno
    simp only [growVs, growV] at hno
    generalize l[i] = va at *
    obtain ⟨nm, vl, vh, vi'⟩ := va
    simp only at hno hbi
    first | refine g_need Tk Tryd.func167 (by exact ⟨by omega, by show (i : Int) < (l.length : Int); omega⟩) ?_ | refine s_need Tk (by exact ⟨by omega, by show (i : Int) < (l.length : Int); omega⟩) ?_
    first | refine g_elem Tk Tryd.func167 (hg) ?_ | refine s_elem Tk (hg) ?_
    let n0 := (lo.getD i 0 - vl).toNat
    apply join_q (P := fun b : Bx => b.low.length = l.length ∧ b.high.length = l.length ∧ (∀ j, -65536 ≤ b.low.getD j 0 ∧ b.low.getD j 0 ≤ 65536) ∧ (∀ j, -65536 ≤ b.high.getD j 0 ∧ b.high.getD j 0 ≤ 65536) ∧ R = growVs (freeR refused) (l.drop (i + 1)) (i + 1) (upR (freeR refused) i vh (vh - b.high.getD i 0).toNat b))
      (s6 := fun b : Bx => { σ := [(2, .own 0 2 0 0), (4, .own 0 4 0 0), (5, .own 0 5 0 0), (14, vrs l), (15, ii l.length), (16, ii i), (6, ii i), (7, .own 0 7 0 0)], S := [(2, .box [vrs l, intss dom, intss needed, intss refused]), (4, .box [.i (.v (.slice none 0 0)), .i (.v (.slice none 0 0))]), (5, .box [.osl 0 9, .osl 0 11]), (9, oints b.low), (11, oints b.high), (7, .box [.i (strI nm), ii vl, ii vh, ii vi'])] :: O, n := 75 })
    · intro J
      refine g_loop ?_
      refine rch_loop2 (fun b : Bx => [(2, .own 0 2 0 0), (4, .own 0 4 0 0), (5, .own 0 5 0 0), (14, vrs l), (15, ii l.length), (16, ii i), (6, ii i), (7, .own 0 7 0 0)]) (fun b => [(2, .box [vrs l, intss dom, intss needed, intss refused]), (4, .box [.i (.v (.slice none 0 0)), .i (.v (.slice none 0 0))]), (5, .box [.osl 0 9, .osl 0 11]), (9, oints b.low), (11, oints b.high), (7, .box [.i (strI nm), ii vl, ii vh, ii vi'])]) (fun _ => O) 75
        (fun b => b.low.length = l.length ∧ b.high.length = l.length ∧ (∀ j, -65536 ≤ b.low.getD j 0 ∧ b.low.getD j 0 ≤ 65536) ∧ (∀ j, -65536 ≤ b.high.getD j 0 ∧ b.high.getD j 0 ≤ 65536) ∧ downR (freeR refused) i vl n0 ⟨lo, hi⟩ = downR (freeR refused) i vl (b.low.getD i 0 - vl).toNat b) (fun b => (b.low.getD i 0 - vl).toNat) ⟨lo, hi⟩
        ⟨hlo, hhi, hbl, hbh, rfl⟩ ⟨rfl, rfl, rfl, rfl, rfl, rfl, rfl, rfl, trivial⟩ rfl ⟨rfl, rfl, rfl, rfl, rfl, rfl, trivial⟩ rfl rfl ?_
      rintro ⟨lo', hi2⟩ ⟨hlo, hhi, hbl, hbh, hdn⟩ ih2
      simp only at hlo hhi hbl hbh hdn
      have hgl : (lo'.map fun x => [vi x])[(i : Int).toNat]? = some [vi (lo'.getD i 0)] := by
        rw [get_mapZ (f := fun x => [vi x]) (show i < lo'.length by omega), List.getD_eq_getElem?_getD, List.getElem?_eq_getElem (show i < lo'.length by omega)]; rfl
      have hxb := hbl i
      generalize hx : lo'.getD i 0 = x at *
      refine g_run Tk Tryd.func167 ?_
      refine g_drawn Tk Tryd.func167 mixedT rfl ?_
      first | refine g_need Tk Tryd.func167 (by exact ⟨by omega, by show (i : Int) < (lo'.length : Int); omega⟩) ?_ | refine s_need Tk (by exact ⟨by omega, by show (i : Int) < (lo'.length : Int); omega⟩) ?_
      first | refine g_elem Tk Tryd.func167 (hgl) ?_ | refine s_elem Tk (hgl) ?_
      refine e_done Tk Tryd.func167 (by kernel_rfl) ?_
      first | refine g_cnd Tk Tryd.func167 rfl (fun g2 => ?_) (fun g2 => ?_) | refine g_know Tk Tryd.func167 rfl (fun g2 => ?_) (fun g2 => ?_) | refine s_know Tk (fun g2 => ?_) (fun g2 => ?_)
      · have h2 : vl < x := of_decide_eq_true g2
        clear g2
        rw [show (x - vl).toNat = (x - 1 - vl).toNat + 1 by omega] at hdn
        simp only [downR, hx] at hdn
        rw [if_pos (by omega)] at hdn
        have hw : IntKind.i64.wrap (x - 1) = x - 1 := w64 (by omega) (by omega)
        first | refine g_need Tk Tryd.func167 (by exact ⟨by omega, by show (i : Int) < (lo'.length : Int); omega⟩) ?_ | refine s_need Tk (by exact ⟨by omega, by show (i : Int) < (lo'.length : Int); omega⟩) ?_
        first | refine g_elem Tk Tryd.func167 (hgl) ?_ | refine s_elem Tk (hgl) ?_
        first | refine g_need Tk Tryd.func167 (by exact ⟨by omega, by show (i : Int) < (lo'.length : Int); omega⟩) ?_ | refine s_need Tk (by exact ⟨by omega, by show (i : Int) < (lo'.length : Int); omega⟩) ?_
        refine g_stop ?_
        refine rch_meet (l := [(2, .own 0 2 0 0), (4, .own 0 4 0 0), (5, .own 0 5 0 0), (14, vrs l), (15, ii l.length), (16, ii i), (6, ii i), (7, .own 0 7 0 0)]) (Hv := [(2, .box [vrs l, intss dom, intss needed, intss refused]), (4, .box [.i (.v (.slice none 0 0)), .i (.v (.slice none 0 0))]), (5, .box [.osl 0 9, .osl 0 11]), (9, oints (lo'.set i (x - 1))), (11, oints hi2), (7, .box [.i (strI nm), ii vl, ii vh, ii vi'])]) (n := 75) ?_ ⟨rfl, rfl, rfl, rfl, rfl, rfl, rfl, rfl, trivial⟩ rfl ⟨rfl, rfl, rfl, by rw [hw]; exact congrArg some (oints_set lo' i (x - 1)), rfl, rfl, trivial⟩ rfl rfl
        refine g_run Tk Tryd.func167 ?_
        refine g_go Tk Tryd.func167 ?_
        first | refine g_call Tk Tryd.func167 (hfree _ ⟨lo'.set i (x - 1), hi2⟩ 0 9 11 (by simpa using hlo) hhi rfl rfl) rfl rfl rfl rfl rfl ?_ | refine s_callq Tk (fun _ => hfree _ ⟨lo'.set i (x - 1), hi2⟩ 0 9 11 (by simpa using hlo) hhi rfl rfl) rfl rfl rfl ?_
        have hlo2 : (lo'.set i (x - 1)).length = l.length := by simpa using hlo
        have hbl2 : ∀ j, -65536 ≤ (lo'.set i (x - 1)).getD j 0 ∧ (lo'.set i (x - 1)).getD j 0 ≤ 65536 := fun j => by
          rw [getD_set]
          split
          · omega
          · exact hbl j
        have hgx : (lo'.set i (x - 1)).getD i 0 = x - 1 := by rw [getD_set, if_pos ⟨rfl, by omega⟩]
        first | refine g_cnd Tk Tryd.func167 rfl (fun g3 => ?_) (fun g3 => ?_) | refine g_know Tk Tryd.func167 rfl (fun g3 => ?_) (fun g3 => ?_) | refine s_know Tk (fun g3 => ?_) (fun g3 => ?_)
        · have h3 : freeR refused ⟨lo'.set i (x - 1), hi2⟩ = false := notT g3
          rw [if_neg (by rw [h3]; simp)] at hdn
          have hw2 : IntKind.i64.wrap (x - 1 + 1) = x := by rw [w64 (by omega) (by omega)]; omega
          have hgl2 : ((lo'.set i (x - 1)).map fun x => [vi x])[(i : Int).toNat]? = some [vi (x - 1)] := by
            rw [get_mapZ (f := fun x => [vi x]) (show i < (lo'.set i (x - 1)).length by omega)]; simp
          have hback : (lo'.set i (x - 1)).set i x = lo' := by
            rw [List.set_set]
            apply List.ext_getElem? 
            intro j
            rw [List.getElem?_set]
            split
            · rename_i e
              subst e
              rw [if_pos (by omega), ← hx, List.getD_eq_getElem?_getD, List.getElem?_eq_getElem (show i < lo'.length by omega)]
              rfl
            · rfl
          first | refine g_need Tk Tryd.func167 (by exact ⟨by omega, by show (i : Int) < ((lo'.set i (x - 1)).length : Int); omega⟩) ?_ | refine s_need Tk (by exact ⟨by omega, by show (i : Int) < ((lo'.set i (x - 1)).length : Int); omega⟩) ?_
          first | refine g_elem Tk Tryd.func167 (hgl2) ?_ | refine s_elem Tk (hgl2) ?_
          first | refine g_need Tk Tryd.func167 (by exact ⟨by omega, by show (i : Int) < ((lo'.set i (x - 1)).length : Int); omega⟩) ?_ | refine s_need Tk (by exact ⟨by omega, by show (i : Int) < ((lo'.set i (x - 1)).length : Int); omega⟩) ?_
          refine g_loop ?_
          refine rch_meet (J ⟨lo', hi2⟩ ⟨hlo, hhi, hbl, hbh, ?_⟩) ⟨rfl, rfl, rfl, rfl, rfl, rfl, rfl, rfl, trivial⟩ rfl ⟨rfl, rfl, rfl, by rw [hw2]; exact congrArg some ((oints_set (lo'.set i (x - 1)) i x).trans (congrArg oints hback)), rfl, rfl, trivial⟩ rfl rfl
          rw [hno, hdn]
        · have h3 : freeR refused ⟨lo'.set i (x - 1), hi2⟩ = true := notF g3
          rw [if_pos h3] at hdn
          refine g_loop ?_
          refine ih2 ⟨lo'.set i (x - 1), hi2⟩ _ _ ⟨hlo2, hhi, hbl2, hbh, by simp only [hgx]; exact hdn⟩ (by simp only [hgx, hx]; omega) ⟨rfl, rfl, rfl, rfl, rfl, rfl, rfl, rfl, trivial⟩ rfl ⟨rfl, rfl, rfl, rfl, rfl, rfl, trivial⟩ rfl rfl
      · have h2 : ¬ vl < x := of_decide_eq_false g2
        rw [show (x - vl).toNat = 0 by omega] at hdn
        simp only [downR] at hdn
        refine g_loop ?_
        refine rch_meet (J ⟨lo', hi2⟩ ⟨hlo, hhi, hbl, hbh, ?_⟩) ⟨rfl, rfl, rfl, rfl, rfl, rfl, rfl, rfl, trivial⟩ rfl ⟨rfl, rfl, rfl, rfl, rfl, rfl, trivial⟩ rfl rfl
        rw [hno, hdn]
    rintro ⟨lo1, hi1⟩ ⟨hlo, hhi, hbl, hbh, hno⟩
    simp only at hlo hhi hbl hbh hno
    refine rch_loop2 (fun b : Bx => [(2, .own 0 2 0 0), (4, .own 0 4 0 0), (5, .own 0 5 0 0), (14, vrs l), (15, ii l.length), (16, ii i), (6, ii i), (7, .own 0 7 0 0)]) (fun b => [(2, .box [vrs l, intss dom, intss needed, intss refused]), (4, .box [.i (.v (.slice none 0 0)), .i (.v (.slice none 0 0))]), (5, .box [.osl 0 9, .osl 0 11]), (9, oints b.low), (11, oints b.high), (7, .box [.i (strI nm), ii vl, ii vh, ii vi'])]) (fun _ => O) 75
        (fun b => b.low.length = l.length ∧ b.high.length = l.length ∧ (∀ j, -65536 ≤ b.low.getD j 0 ∧ b.low.getD j 0 ≤ 65536) ∧ (∀ j, -65536 ≤ b.high.getD j 0 ∧ b.high.getD j 0 ≤ 65536) ∧ upR (freeR refused) i vh (vh - hi1.getD i 0).toNat ⟨lo1, hi1⟩ = upR (freeR refused) i vh (vh - b.high.getD i 0).toNat b) (fun b => (vh - b.high.getD i 0).toNat) ⟨lo1, hi1⟩
        ⟨hlo, hhi, hbl, hbh, rfl⟩ ⟨rfl, rfl, rfl, rfl, rfl, rfl, rfl, rfl, trivial⟩ rfl ⟨rfl, rfl, rfl, rfl, rfl, rfl, trivial⟩ rfl rfl ?_
    rintro ⟨lo2, hi'⟩ ⟨hlo, hhi, hbl, hbh, hdn⟩ ih2
    simp only at hlo hhi hbl hbh hdn
    have hgl : (hi'.map fun x => [vi x])[(i : Int).toNat]? = some [vi (hi'.getD i 0)] := by
      rw [get_mapZ (f := fun x => [vi x]) (show i < hi'.length by omega), List.getD_eq_getElem?_getD, List.getElem?_eq_getElem (show i < hi'.length by omega)]; rfl
    have hxb := hbh i
    generalize hx : hi'.getD i 0 = x at *
    refine g_run Tk Tryd.func167 ?_
    refine g_drawn Tk Tryd.func167 mixedT rfl ?_
    first | refine g_need Tk Tryd.func167 (by exact ⟨by omega, by show (i : Int) < (hi'.length : Int); omega⟩) ?_ | refine s_need Tk (by exact ⟨by omega, by show (i : Int) < (hi'.length : Int); omega⟩) ?_
    first | refine g_elem Tk Tryd.func167 (hgl) ?_ | refine s_elem Tk (hgl) ?_
    refine e_done Tk Tryd.func167 (by kernel_rfl) ?_
    first | refine g_cnd Tk Tryd.func167 rfl (fun g2 => ?_) (fun g2 => ?_) | refine g_know Tk Tryd.func167 rfl (fun g2 => ?_) (fun g2 => ?_) | refine s_know Tk (fun g2 => ?_) (fun g2 => ?_)
    · have h2 : x < vh := of_decide_eq_true g2
      clear g2
      rw [show (vh - x).toNat = (vh - (x + 1)).toNat + 1 by omega] at hdn
      simp only [upR, hx] at hdn
      rw [if_pos (by omega)] at hdn
      have hw : IntKind.i64.wrap (x + 1) = x + 1 := w64 (by omega) (by omega)
      first | refine g_need Tk Tryd.func167 (by exact ⟨by omega, by show (i : Int) < (hi'.length : Int); omega⟩) ?_ | refine s_need Tk (by exact ⟨by omega, by show (i : Int) < (hi'.length : Int); omega⟩) ?_
      first | refine g_elem Tk Tryd.func167 (hgl) ?_ | refine s_elem Tk (hgl) ?_
      first | refine g_need Tk Tryd.func167 (by exact ⟨by omega, by show (i : Int) < (hi'.length : Int); omega⟩) ?_ | refine s_need Tk (by exact ⟨by omega, by show (i : Int) < (hi'.length : Int); omega⟩) ?_
      refine g_stop ?_
      refine rch_meet (l := [(2, .own 0 2 0 0), (4, .own 0 4 0 0), (5, .own 0 5 0 0), (14, vrs l), (15, ii l.length), (16, ii i), (6, ii i), (7, .own 0 7 0 0)]) (Hv := [(2, .box [vrs l, intss dom, intss needed, intss refused]), (4, .box [.i (.v (.slice none 0 0)), .i (.v (.slice none 0 0))]), (5, .box [.osl 0 9, .osl 0 11]), (9, oints lo2), (11, oints (hi'.set i (x + 1))), (7, .box [.i (strI nm), ii vl, ii vh, ii vi'])]) (n := 75) ?_ ⟨rfl, rfl, rfl, rfl, rfl, rfl, rfl, rfl, trivial⟩ rfl ⟨rfl, rfl, rfl, rfl, by rw [hw]; exact congrArg some (oints_set hi' i (x + 1)), rfl, trivial⟩ rfl rfl
      refine g_run Tk Tryd.func167 ?_
      refine g_go Tk Tryd.func167 ?_
      first | refine g_call Tk Tryd.func167 (hfree _ ⟨lo2, hi'.set i (x + 1)⟩ 0 9 11 hlo (by simpa using hhi) rfl rfl) rfl rfl rfl rfl rfl ?_ | refine s_callq Tk (fun _ => hfree _ ⟨lo2, hi'.set i (x + 1)⟩ 0 9 11 hlo (by simpa using hhi) rfl rfl) rfl rfl rfl ?_
      have hhi2 : (hi'.set i (x + 1)).length = l.length := by simpa using hhi
      have hbh2 : ∀ j, -65536 ≤ (hi'.set i (x + 1)).getD j 0 ∧ (hi'.set i (x + 1)).getD j 0 ≤ 65536 := fun j => by
        rw [getD_set]
        split
        · omega
        · exact hbh j
      have hgx : (hi'.set i (x + 1)).getD i 0 = x + 1 := by rw [getD_set, if_pos ⟨rfl, by omega⟩]
      first | refine g_cnd Tk Tryd.func167 rfl (fun g3 => ?_) (fun g3 => ?_) | refine g_know Tk Tryd.func167 rfl (fun g3 => ?_) (fun g3 => ?_) | refine s_know Tk (fun g3 => ?_) (fun g3 => ?_)
      · have h3 : freeR refused ⟨lo2, hi'.set i (x + 1)⟩ = false := notT g3
        rw [if_neg (by rw [h3]; simp)] at hdn
        have hw2 : IntKind.i64.wrap (x + 1 - 1) = x := by rw [w64 (by omega) (by omega)]; omega
        have hgl2 : ((hi'.set i (x + 1)).map fun x => [vi x])[(i : Int).toNat]? = some [vi (x + 1)] := by
          rw [get_mapZ (f := fun x => [vi x]) (show i < (hi'.set i (x + 1)).length by omega)]; simp
        have hback : (hi'.set i (x + 1)).set i x = hi' := by
          rw [List.set_set]
          apply List.ext_getElem?
          intro j
          rw [List.getElem?_set]
          split
          · rename_i e
            subst e
            rw [if_pos (by omega), ← hx, List.getD_eq_getElem?_getD, List.getElem?_eq_getElem (show i < hi'.length by omega)]
            rfl
          · rfl
        first | refine g_need Tk Tryd.func167 (by exact ⟨by omega, by show (i : Int) < ((hi'.set i (x + 1)).length : Int); omega⟩) ?_ | refine s_need Tk (by exact ⟨by omega, by show (i : Int) < ((hi'.set i (x + 1)).length : Int); omega⟩) ?_
        first | refine g_elem Tk Tryd.func167 (hgl2) ?_ | refine s_elem Tk (hgl2) ?_
        first | refine g_need Tk Tryd.func167 (by exact ⟨by omega, by show (i : Int) < ((hi'.set i (x + 1)).length : Int); omega⟩) ?_ | refine s_need Tk (by exact ⟨by omega, by show (i : Int) < ((hi'.set i (x + 1)).length : Int); omega⟩) ?_
        refine g_loop ?_
        refine ih (i + 1, ⟨lo2, hi'⟩) _ _ ⟨h1, hlo, hhi, hbl, hbh, ?_⟩ (by simp only; omega) ⟨rfl, rfl, rfl, rfl, rfl, congrArg ii (wsucc (n := 16) (by omega) (by decide)), trivial⟩ rfl ⟨rfl, rfl, rfl, rfl, by rw [hw2]; exact congrArg some ((oints_set (hi'.set i (x + 1)) i x).trans (congrArg oints hback)), trivial⟩ rfl rfl
        rw [hno, hdn]
      · have h3 : freeR refused ⟨lo2, hi'.set i (x + 1)⟩ = true := notF g3
        rw [if_pos h3] at hdn
        refine g_loop ?_
        refine ih2 ⟨lo2, hi'.set i (x + 1)⟩ _ _ ⟨hlo, hhi2, hbl, hbh2, by simp only [hgx]; exact hdn⟩ (by simp only [hgx, hx]; omega) ⟨rfl, rfl, rfl, rfl, rfl, rfl, rfl, rfl, trivial⟩ rfl ⟨rfl, rfl, rfl, rfl, rfl, rfl, trivial⟩ rfl rfl
    · have h2 : ¬ x < vh := of_decide_eq_false g2
      rw [show (vh - x).toNat = 0 by omega] at hdn
      simp only [upR] at hdn
      refine g_loop ?_
      refine ih (i + 1, ⟨lo2, hi'⟩) _ _ ⟨h1, hlo, hhi, hbl, hbh, ?_⟩ (by simp only; omega) ⟨rfl, rfl, rfl, rfl, rfl, congrArg ii (wsucc (n := 16) (by omega) (by decide)), trivial⟩ rfl ⟨rfl, rfl, rfl, rfl, rfl, trivial⟩ rfl rfl
      rw [hno, hdn]
  · have h1 : l.length ≤ i := by simpa using g1
    rw [List.drop_eq_nil_of_le h1] at hno
    simp only [growVs] at hno
    subst hno
    refine g_rwk (wk_freeze 9 rfl rfl) ?_
    refine g_rwk (wk_freeze 11 rfl rfl) ?_
    refine g_rwk (wk_imm rfl) ?_
    refine g_ret Tk (r := bxD ⟨lo, hi⟩) rfl rfl rfl trivial rfl rfl ?_
    rfl
end Go.AI


/- The law's own: within, permitted, grow. -/
namespace Go.AI
open Go.Proofs
set_option maxRecDepth 20000
end Go.AI


/- The law's domain, table, bits. -/
namespace Go.AI
open Go.Proofs
set_option maxRecDepth 20000
theorem domain17 (O : List Heap) (l : List Vr) (hl : l.length ≤ 16) (hv : ∀ v ∈ l, (-65536 ≤ v.low ∧ v.high ≤ 65536) ∧ v.low ≤ v.high) (hcl : ∀ j, (allV (l.take j)).length ≤ 4096) : ASpec Tryd.prog 17 [vrs l] O (intss (allV l)) [] O := by
  refine aspec_stop [200045] Tk Tryd.func17 rfl Tryd.call17 Tryd.ntmps17 (Nat.le_of_ble_eq_true rfl) fun E => ?_
  refine g_run Tk Tryd.func17 ?_
  refine g_loop ?_
  have hco : CoD (.i (.sl 1 1 [[.v (.slice none 0 0)]])) (intss [[]]) := by
    show CoD _ (.i (.sl 1 1 [[.sl 1 0 []]]))
    repeat' (first | refine coD_tup ?_ | refine coD_agg ?_ | refine coD_i ?_ | refine CoDL.cons ?_ ?_ | exact CoDL.nil | exact coI_nil | refine coI_sl ?_ | refine CoLL.cons ?_ ?_ | exact CoLL.nil | refine CoL.cons ?_ ?_ | exact CoL.nil | exact CoI.refl _ | exact CoL.refl _ | exact CoLL.refl _ | exact CoDL.refl _ | exact CoD.refl _)
  refine rch_wk (wk_freeze 8 rfl rfl) ?_
  refine rch_wk (wk_imm rfl) ?_
  refine rch_wk (wk_co 3 (d := intss [[]]) (by exact hco)) ?_
  clear hco
  refine rch_loop2 (fun x : Nat × List (List Int) => [(0, vrs l), (3, intss x.2), (4, ii x.1)]) (fun _ => []) (fun _ => O) 49
    (fun x => x.1 ≤ l.length ∧ x.2 = allV (l.take x.1) ∧ ∀ y ∈ x.2, y.length = x.1) (fun x => l.length - x.1) (0, [[]]) ⟨Nat.zero_le _, rfl, by simp⟩ ⟨rfl, rfl, rfl, trivial⟩ rfl trivial rfl rfl ?_
  rintro ⟨j, out⟩ ⟨hj, hout, hvals⟩ ih
  simp only at hj hout hvals
  have hlen : out.length ≤ 4096 := by rw [hout]; exact hcl j
  refine g_run Tk Tryd.func17 ?_
  first | refine g_cnd Tk Tryd.func17 rfl (fun g1 => ?_) (fun g1 => ?_) | refine g_know Tk Tryd.func17 rfl (fun g1 => ?_) (fun g1 => ?_) | refine s_know Tk (fun g1 => ?_) (fun g1 => ?_)
  · have h1 : j < l.length := by simpa using g1
    clear g1
    have hg : (l.map vrI)[(j : Int).toNat]? = some (vrI l[j]) := get_mapZ h1
    have hvo := hv _ (List.getElem_mem h1)
    have hnext : allStep out l[j] = allV (l.take (j + 1)) := by
      rw [hout]
      unfold allV
      rw [List.take_add_one, List.getElem?_eq_getElem h1, List.foldl_append]
      rfl
    have hsl : (allStep out l[j]).length ≤ 4096 := by rw [hnext]; exact hcl (j + 1)
    generalize l[j] = v at *
    obtain ⟨⟨hlo, hhi⟩, hlh⟩ := hvo
    have hpre : ∀ i, (allStep (out.take i) v).length ≤ 4096 := fun i => by
      have h1 := allStep_len' out v (by omega)
      have h2 := allStep_len' (out.take i) v (by omega)
      have h3 : (out.take i).length ≤ out.length := by simp only [List.length_take]; omega
      have h4 : ((out.take i).length : Int) * v.w ≤ out.length * v.w := Int.mul_le_mul_of_nonneg_right (by omega) (by unfold Vr.w; omega)
      omega
    have hsv := allStep_vals (out := out) (v := v) hvals
    refine g_loop ?_
    refine rch_wk (wk_nil 5 46 53 1 rfl rfl rfl) ?_
    refine rch_loop2 (fun x : Nat × List (List Int) => [(0, vrs l), (3, intss out), (4, ii j), (5, .osl 0 46), (6, ii x.1)]) (fun x => [(46, ointss x.2)]) (fun _ => O) 49
      (fun x => x.1 ≤ out.length ∧ x.2 = allStep (out.take x.1) v) (fun x => out.length - x.1) (0, []) ⟨Nat.zero_le _, rfl⟩ ⟨rfl, rfl, rfl, rfl, rfl, trivial⟩ rfl ⟨rfl, trivial⟩ rfl rfl ?_
    rintro ⟨i, acc⟩ ⟨hi, hacc⟩ ih2
    simp only at hi hacc
    refine g_run Tk Tryd.func17 ?_
    first | refine g_cnd Tk Tryd.func17 rfl (fun g2 => ?_) (fun g2 => ?_) | refine g_know Tk Tryd.func17 rfl (fun g2 => ?_) (fun g2 => ?_) | refine s_know Tk (fun g2 => ?_) (fun g2 => ?_)
    · have h2 : i < out.length := by simpa using g2
      clear g2
      have hgo : (out.map fun x => [intsI x])[(i : Int).toNat]? = some [intsI out[i]] := get_mapZ (f := fun x => [intsI x]) h2
      have hxl := hvals _ (List.getElem_mem h2)
      have hnx : allStep (out.take (i + 1)) v = acc ++ (rangeI v.low v.high).map fun n => out[i] ++ [n] := by
        rw [hacc]
        unfold allStep
        rw [List.take_add_one, List.getElem?_eq_getElem h2, List.flatMap_append]
        simp
      have hal : acc.length ≤ 4096 := by
        rw [hacc]
        exact hpre i
      generalize out[i] = vals at *
      have hk0 : rangeI v.low (v.low + ((0 : Nat) : Int) - 1) = [] := by
        unfold rangeI
        rw [show (v.low + ((0 : Nat) : Int) - 1 - v.low + 1).toNat = 0 by omega]
        rfl
      have hjb : 0 ≤ (j : Int) ∧ (j : Int) < (l.length : Int) := by omega
      first | refine g_need Tk Tryd.func17 (by exact hjb) ?_ | refine s_need Tk (by exact hjb) ?_
      first | refine g_elem Tk Tryd.func17 (hg) ?_ | refine s_elem Tk (hg) ?_
      refine g_loop ?_
      refine rch_loop2 (fun k : Nat => [(0, vrs l), (3, intss out), (4, ii j), (5, .osl 0 46), (6, ii i), (7, ii (v.low + k))])
        (fun k => [(46, ointss (acc ++ (rangeI v.low (v.low + k - 1)).map fun n => vals ++ [n]))]) (fun _ => O) 49
        (fun k => (k : Int) ≤ v.high - v.low + 1) (fun k => (v.high - v.low + 1).toNat - k) 0 (show ((0 : Nat) : Int) ≤ v.high - v.low + 1 by omega) ⟨rfl, rfl, rfl, rfl, rfl, congrArg ii (by simp), trivial⟩ rfl ⟨by show some (ointss acc) = some (ointss (acc ++ (rangeI v.low (v.low + ((0 : Nat) : Int) - 1)).map fun n => vals ++ [n])); rw [hk0]; simp, trivial⟩ rfl rfl ?_
      rintro k hk ih3
      have hk : (k : Int) ≤ v.high - v.low + 1 := hk
      have hks : (rangeI v.low (v.low + ((k + 1 : Nat) : Int) - 1)).map (fun n => vals ++ [n]) = (rangeI v.low (v.low + k - 1)).map (fun n => vals ++ [n]) ++ [vals ++ [v.low + k]] := by
        unfold rangeI
        rw [show (v.low + ((k + 1 : Nat) : Int) - 1 - v.low + 1).toNat = k + 1 by omega, show (v.low + (k : Int) - 1 - v.low + 1).toNat = k by omega, List.range_succ, List.map_append, List.map_append]
        rfl
      have hkl : ((rangeI v.low (v.low + k - 1)).map fun n => vals ++ [n]).length = k := by
        unfold rangeI
        simp
        omega
      have hke : (k : Int) = v.high - v.low + 1 → (rangeI v.low (v.low + k - 1)).map (fun n => vals ++ [n]) = (rangeI v.low v.high).map fun n => vals ++ [n] := fun e => by rw [e, show v.low + (v.high - v.low + 1) - 1 = v.high by omega]
      generalize (rangeI v.low (v.low + k - 1)).map (fun n => vals ++ [n]) = part at *
      refine g_run Tk Tryd.func17 ?_
      first | refine g_need Tk Tryd.func17 (by exact hjb) ?_ | refine s_need Tk (by exact hjb) ?_
      first | refine g_elem Tk Tryd.func17 (hg) ?_ | refine s_elem Tk (hg) ?_
      first | refine g_cnd Tk Tryd.func17 rfl (fun g3 => ?_) (fun g3 => ?_) | refine g_know Tk Tryd.func17 rfl (fun g3 => ?_) (fun g3 => ?_) | refine s_know Tk (fun g3 => ?_) (fun g3 => ?_)
      · have h3 : v.low + k ≤ v.high := of_decide_eq_true g3
        clear g3
        first | refine g_need Tk Tryd.func17 (by exact ⟨by omega, by show (i : Int) < (out.length : Int); omega⟩) ?_ | refine s_need Tk (by exact ⟨by omega, by show (i : Int) < (out.length : Int); omega⟩) ?_
        first | refine g_elem Tk Tryd.func17 (hgo) ?_ | refine s_elem Tk (hgo) ?_
        first | refine g_need Tk Tryd.func17 (by exact ⟨by show (0 + vals.length) * 8 ≤ 140737488355328; omega, by show 0 + vals.length ≤ 9223372036854775807; omega⟩) ?_ | refine s_need Tk (by exact ⟨by show (0 + vals.length) * 8 ≤ 140737488355328; omega, by show 0 + vals.length ≤ 9223372036854775807; omega⟩) ?_
        first | refine g_need Tk Tryd.func17 (by exact ⟨by show (0 + vals.length + 1) * 8 ≤ 140737488355328; omega, by show 0 + vals.length + 1 ≤ 9223372036854775807; omega⟩) ?_ | refine s_need Tk (by exact ⟨by show (0 + vals.length + 1) * 8 ≤ 140737488355328; omega, by show 0 + vals.length + 1 ≤ 9223372036854775807; omega⟩) ?_
        refine g_pause Tk Tryd.func17 rfl rfl (Wk.trans (wk_freeze 44 rfl rfl) (wk_imm rfl)) ?_
        first | refine g_need Tk Tryd.func17 (by exact ⟨by show ((acc ++ part).length + 1) * 24 ≤ 140737488355328; simp only [List.length_append]; omega, by show (acc ++ part).length + 1 ≤ 9223372036854775807; simp only [List.length_append]; omega⟩) ?_ | refine s_need Tk (by exact ⟨by show ((acc ++ part).length + 1) * 24 ≤ 140737488355328; simp only [List.length_append]; omega, by show (acc ++ part).length + 1 ≤ 9223372036854775807; simp only [List.length_append]; omega⟩) ?_
        refine g_loop ?_
        refine ih3 (k + 1) _ _ (show ((k + 1 : Nat) : Int) ≤ v.high - v.low + 1 by omega) (by omega) ⟨rfl, rfl, rfl, rfl, rfl, congrArg ii ?_, trivial⟩ rfl ⟨?_, trivial⟩ rfl rfl
        · rw [w64 (by omega) (by omega)]; omega
        · rw [hks]
          have e : (vals ++ [v.low + (k : Int)]).map (fun x => [vi x]) = [] ++ vals.map (fun x => [vi x]) ++ [[vi (v.low + k)]] := by simp
          show some (Ob.arr 53 1 ((acc ++ part).length + 1) ((acc ++ part).map (fun x => [intsI x]) ++ [[.sl 1 (0 + vals.length + 1) ([] ++ vals.map (fun x => [vi x]) ++ [[vi (v.low + k)]])]]) true) = some (ointss (acc ++ (part ++ [vals ++ [v.low + (k : Int)]])))
          rw [← List.append_assoc acc part]
          have e2 : 0 + vals.length + 1 = (vals ++ [v.low + (k : Int)]).length := by simp
          rw [← e, e2]
          exact congrArg some (ointss_app _ _)
      · have h3 : ¬ v.low + k ≤ v.high := of_decide_eq_false g3
        clear g3
        rw [hke (by omega)]
        refine g_loop ?_
        refine ih2 (i + 1, acc ++ (rangeI v.low v.high).map fun n => vals ++ [n]) _ _ ⟨h2, hnx.symm⟩ (by simp only; omega) ⟨rfl, rfl, rfl, rfl, congrArg ii (wsucc (n := 4096) (by omega) (by decide)), trivial⟩ rfl ⟨rfl, trivial⟩ rfl rfl
    · have h2 : out.length ≤ i := by simpa using g2
      clear g2
      rw [List.take_of_length_le h2] at hacc
      refine g_loop ?_
      refine rch_wk (wk_freeze 46 rfl rfl) ?_
      refine rch_wk (wk_imm rfl) ?_
      rw [hacc] at *
      refine ih (j + 1, allStep out v) _ _ ⟨h1, hnext, hsv⟩ (by simp only; omega) ⟨rfl, rfl, congrArg ii (wsucc (n := 16) (by omega) (by decide)), trivial⟩ rfl trivial rfl rfl
  · have h1 : l.length ≤ j := by simpa using g1
    rw [List.take_of_length_le h1] at hout
    subst hout
    refine g_ret Tk (r := intss (allV l)) rfl rfl rfl trivial rfl rfl ?_
    rfl
end Go.AI


/- The law's table, bits, covered. -/
namespace Go.AI
open Go.Proofs
set_option maxRecDepth 20000
def tblL (x : Ex) : List (List Int) → List Bool → List Bool × Bool
  | [], acc => (acc, true)
  | v :: r, acc => if (evalX x v).2 ≠ 0 then ([], false) else tblL x r (acc ++ [(evalX x v).1 == 1])
/-- What the law asks of variables. -/
structure domOk (l : List Vr) : Prop where
  len : l.length ≤ 16
  b : ∀ v ∈ l, (-65536 ≤ v.low ∧ v.high ≤ 65536) ∧ v.low ≤ v.high
  cnt : ∀ j, (allV (l.take j)).length ≤ 4096
theorem domOk.all {l : List Vr} (h : domOk l) : (allV l).length ≤ 4096 := by have := h.cnt l.length; rwa [List.take_length] at this
theorem allV_mem_len {l : List Vr} {v : List Int} (h : v ∈ allV l) : v.length = l.length := inV_len ((allV_dom l).mem v |>.1 h)
theorem table23 (O : List Heap) (l : List Vr) (x : Ex) (hd : domOk l) (hok : exOk x) : ASpec Tryd.prog 23 [vrs l, exA x] O (.tup [bools (tblL x (allV l) []).1, bb (tblL x (allV l) []).2]) [] O := by
  have hdm := fun O => domain17 O l hd.len hd.b hd.cnt
  have hev := fun O v hl => evaluate51A O x v hok hl
  have hdl := hd.all
  have hv : ∀ v ∈ allV l, v.length ≤ max63 := fun v h => by have := allV_mem_len h; have := hd.len; simp only [max63]; omega
  generalize hR : tblL x (allV l) [] = R
  generalize allV l = dom at *
  obtain ⟨op, xv, ix, args⟩ := x
  refine aspec_intro Tk Tryd.func23 rfl Tryd.call23 Tryd.ntmps23 (Nat.le_of_ble_eq_true rfl) fun E => ?_
  refine g_run Tk Tryd.func23 ?_
  first | refine g_call Tk Tryd.func23 (hdm _) rfl rfl rfl rfl rfl ?_ | refine s_callq Tk (fun _ => hdm _) rfl rfl rfl ?_
  refine g_loop ?_
  refine rch_wk (wk_nil 6 34 4 1 rfl rfl rfl) ?_
  refine rch_loop2 (fun x : Nat × List Bool => [(3, .own 0 3 0 0), (6, .osl 0 34), (7, intss dom), (8, ii x.1)]) (fun x => [(3, .box [ii op, ii xv, ii ix, exs args]), (34, obools x.2)]) (fun _ => O) 36
    (fun x => x.1 ≤ dom.length ∧ x.2.length ≤ x.1 ∧ tblL (.mk op xv ix args) (dom.drop x.1) x.2 = R) (fun x => dom.length - x.1) (0, []) ⟨Nat.zero_le _, by simp, hR⟩ ⟨rfl, rfl, rfl, rfl, trivial⟩ rfl ⟨rfl, rfl, trivial⟩ rfl rfl ?_
  rintro ⟨i, acc⟩ ⟨hi, hal, hno⟩ ih
  clear hR
  simp only at hi hal hno
  refine g_run Tk Tryd.func23 ?_
  first | refine g_cnd Tk Tryd.func23 rfl (fun g1 => ?_) (fun g1 => ?_) | refine g_know Tk Tryd.func23 rfl (fun g1 => ?_) (fun g1 => ?_) | refine s_know Tk (fun g1 => ?_) (fun g1 => ?_)
  · have h1 : i < dom.length := by simpa using g1
    clear g1
    have hdr : dom.drop i = dom[i] :: dom.drop (i + 1) := List.drop_eq_getElem_cons h1
    have hg : (dom.map fun x => [intsI x])[(i : Int).toNat]? = some [intsI dom[i]] := get_mapZ (f := fun x => [intsI x]) h1
    have hvl := hv _ (List.getElem_mem h1)
    rw [hdr] at hno
    simp only [tblL] at hno
    generalize dom[i] = v at *
    have hev := fun O => hev O v hvl
    generalize evalX (.mk op xv ix args) v = V at *
    obtain ⟨w, we⟩ := V
    simp only at hno hev
    refine g_drawn Tk Tryd.func23 mixedT rfl ?_
    first | refine g_need Tk Tryd.func23 (by exact ⟨by omega, by show (i : Int) < (dom.length : Int); omega⟩) ?_ | refine s_need Tk (by exact ⟨by omega, by show (i : Int) < (dom.length : Int); omega⟩) ?_
    first | refine g_elem Tk Tryd.func23 (hg) ?_ | refine s_elem Tk (hg) ?_
    first | refine g_call Tk Tryd.func23 (hev _) rfl rfl rfl rfl rfl ?_ | refine s_callq Tk (fun _ => hev _) rfl rfl rfl ?_
    refine e_done Tk Tryd.func23 (by kernel_rfl) ?_
    first | refine g_cnd Tk Tryd.func23 rfl (fun h2 => ?_) (fun h2 => ?_) | refine g_know Tk Tryd.func23 rfl (fun h2 => ?_) (fun h2 => ?_) | refine s_know Tk (fun h2 => ?_) (fun h2 => ?_)
    · have h2 := bneT h2
      rw [if_pos h2] at hno
      subst hno
      refine g_ret_co Tk (r := _) rfl rfl rfl trivial rfl rfl ?_
      repeat' (first | refine coD_tup ?_ | refine coD_agg ?_ | refine coD_i ?_ | refine CoDL.cons ?_ ?_ | exact CoDL.nil | exact coI_nil | refine coI_sl ?_ | refine CoLL.cons ?_ ?_ | exact CoLL.nil | refine CoL.cons ?_ ?_ | exact CoL.nil | exact CoI.refl _ | exact CoL.refl _ | exact CoLL.refl _ | exact CoDL.refl _ | exact CoD.refl _)
    have h2 := bneF h2
    rw [if_neg (by simpa using h2)] at hno
    first | refine g_need Tk Tryd.func23 (by exact ⟨by show (acc.length + 1) * 1 ≤ 140737488355328; omega, by show acc.length + 1 ≤ 9223372036854775807; omega⟩) ?_ | refine s_need Tk (by exact ⟨by show (acc.length + 1) * 1 ≤ 140737488355328; omega, by show acc.length + 1 ≤ 9223372036854775807; omega⟩) ?_
    refine g_loop ?_
    refine ih (i + 1, acc ++ [w == 1]) _ _ ⟨h1, by simp only [List.length_append, List.length_cons, List.length_nil]; omega, hno⟩ (by simp only; omega) ⟨rfl, rfl, rfl, congrArg ii (wsucc (n := 4096) (by omega) (by decide)), trivial⟩ rfl ⟨rfl, congrArg some (obools_app acc (w == 1)), trivial⟩ rfl rfl
  · have h1 : dom.length ≤ i := by simpa using g1
    rw [List.drop_eq_nil_of_le h1] at hno
    simp only [tblL] at hno
    subst hno
    refine g_rwk (wk_freeze 34 rfl rfl) ?_
    refine g_rwk (wk_imm rfl) ?_
    refine g_ret_co Tk (r := _) rfl rfl rfl trivial rfl rfl ?_
    repeat' (first | refine coD_tup ?_ | refine coD_agg ?_ | refine coD_i ?_ | refine CoDL.cons ?_ ?_ | exact CoDL.nil | exact coI_nil | refine coI_sl ?_ | refine CoLL.cons ?_ ?_ | exact CoLL.nil | refine CoL.cons ?_ ?_ | exact CoL.nil | exact CoI.refl _ | exact CoL.refl _ | exact CoLL.refl _ | exact CoDL.refl _ | exact CoD.refl _)
end Go.AI


/- The law's covered and cover. -/
namespace Go.AI
open Go.Proofs
set_option maxRecDepth 20000
end Go.AI


/- The law's cover. -/
namespace Go.AI
open Go.Proofs
set_option maxRecDepth 20000
theorem coverL_len (free : Bx → Bool) (vars : List Vr) : ∀ (n : List (List Int)) (l : List Bx), (coverL free vars n l).length ≤ l.length + n.length
  | [], l => by simp [coverL]
  | v :: r, l => by
    simp only [coverL]
    split
    · have := coverL_len free vars r l; simp only [List.length_cons]; omega
    · have := coverL_len free vars r (l ++ [growVs free vars 0 ⟨v, v⟩]); simp only [List.length_append, List.length_cons, List.length_nil] at this ⊢; omega
theorem neededR_len : ∀ (all : List (List Int)) (t c : List Bool), (neededR all t c).length ≤ all.length
  | [], _, _ => by simp [neededR]
  | _ :: _, [], _ => by simp [neededR]
  | _ :: _, _ :: _, [] => by simp [neededR]
  | d :: ds, t :: ts, c :: cs => by
    have := neededR_len ds ts cs
    simp only [neededR, List.length_cons]
    split
    · simp only [List.length_cons]; omega
    · omega
theorem dom_bounds {l : List Vr} (h : domOk l) {v : List Int} (hv : v ∈ allV l) : ∀ j, -65536 ≤ v.getD j 0 ∧ v.getD j 0 ≤ 65536 := by
  have h1 := (allV_dom l).mem v |>.1 hv
  have hb := h.b
  clear h hv
  induction l generalizing v with
  | nil => cases v with
    | nil => intro j; simp
    | cons x xs => exact h1.elim
  | cons a r ih =>
    cases v with
    | nil => exact h1.elim
    | cons x xs =>
      intro j
      cases j with
      | zero => have := hb a (by simp); have := h1.1; simp only [List.getD_cons_zero]; omega
      | succ j => simpa using ih (v := xs) h1.2 (fun v hv => hb v (by simp [hv])) j
end Go.AI


/- strings.Builder, told whole: what a write changes, and that nothing else changes. -/
namespace Go.Proofs
open Go.Shelf Go.RowKit
variable {P : Program} {ρ : Ren}
theorem heap_set0 {w : World} {b : Nat} {p q v : Value} {T : TypeId} (h : w.heap[b]? = some (.cells #[p, v] T (0, 0))) : (w.setCell ⟨b, 0, none⟩ q).heap[b]? = some (.cells #[q, v] T (0, 0)) := by
  show (Array.modify _ _ _)[b]? = _
  rw [Array.getElem?_modify, if_pos rfl, h]
  rfl
theorem heap_set1 {w : World} {b : Nat} {p q v : Value} {T : TypeId} (h : w.heap[b]? = some (.cells #[p, v] T (0, 0))) : (w.setCell ⟨b, 1, none⟩ q).heap[b]? = some (.cells #[p, q] T (0, 0)) := by
  show (Array.modify _ _ _)[b]? = _
  rw [Array.getElem?_modify, if_pos rfl, h]
  rfl
theorem ownsRow_at {w w' : World} {e : TypeId} {v : Value} {n : Nat} {xs : List Value} (h : w.ownsRow 0 e 1 v n xs) (hb : ∀ k, v.ownBlock = some k → w'.heap[k]? = w.heap[k]?) : w'.ownsRow 0 e 1 v n xs := by
  refine ⟨h.1, ?_⟩
  rcases h.2 with h1 | ⟨g, cap, cur, rfl, h2, h3, h4⟩
  · exact .inl h1
  · exact .inr ⟨g, cap, cur, rfl, h2, by rw [hb g rfl]; exact h3, h4⟩
section
variable (w : World)
/-- Where the row of an append lies: where it lay, or in a new block. -/
def RowAt (w : World) (v v' : Value) : Prop := v'.ownBlock = v.ownBlock ∨ ∀ k, v'.ownBlock = some k → w.heap.size ≤ k
theorem append_str_law (t u ty e : TypeId) (i : TypeInfo) (ht : P.underlying t = some (.slice e)) (hu : P.underlying u = some .string) (hi : P.info? e = some i) (hz : i.zero = some (.int .u8 0))
    (hsize : i.size = 1) (hby : i.bytes = 1) (v : Value) (n : Nat) (xs : List Value) (hown : w.ownsRow 0 e 1 v n xs) (s : ByteArray) (h63 : n + s.size ≤ maxLen) (hbytes : n + s.size ≤ 140737488355328) :
    ∃ v' w', (Builtin.append_ #[t, u] ty #[v, .string s]).run P w = .ok v' w' ∧ w'.ownsRow 0 e 1 v' (n + s.size) (xs ++ Lib.strCells s) ∧ w.grownBy w' v.ownBlock ∧ RowAt w v v' := by
  obtain ⟨v', w', hr, h2, h3, -⟩ := Lib.run_append_own_string (P := P) w 0 t u ty e i ht hu hi hz hsize hby v n xs hown s h63 hbytes (Nat.zero_le _)
  refine ⟨v', w', hr, h2, h3, ?_⟩
  have hxl : xs.length = n := by simpa using hown.1
  rcases hown.2 with ⟨rfl, rfl⟩ | ⟨g, cap, cur, rfl, hbg, hg, hnc, hcm, hcs, htake⟩
  · obtain rfl : xs = [] := List.eq_nil_of_length_eq_zero hxl
    obtain ⟨v2, w2, hr2, h5, -⟩ := Lib.run_append_own_string (P := P) w w.heap.size t u ty e i ht hu hi hz hsize hby (.slice none 0 0) 0 [] (World.ownsRow_nil w _ e 1) s h63 hbytes (Nat.le_refl _)
    have e1 : v' = v2 := by have := hr.symm.trans hr2; injection this
    subst e1
    exact .inr fun k hk => (h5.lt k hk).1
  · by_cases hroom : n + s.size ≤ cap
    · have hr2 := Lib.run_append_room_string (P := P) w t u ty e i ht hu hi hsize g n cap cur hg s hroom (by omega)
      have e1 : v' = .slice (some ⟨g, 0, none⟩) (n + s.size) cap := by have := hr.symm.trans hr2; injection this
      subst e1
      exact .inl rfl
    · have holds : ∀ j u, xs[j]? = some u → w.cell? ((⟨g, 0, none⟩ : Addr).add j) = some u := hown.cells (g := g) rfl
      have hr2 := Lib.run_append_grow_string (P := P) w t u ty e i (.int .u8 0) ht hu hi hz ⟨g, 0, none⟩ n cap xs (by rw [hsize]; simpa using hxl) holds s (by omega) (by simp only [maxLen] at h63; omega) (by rw [hby]; exact growslice_fits (by omega) (by omega))
      have e1 : v' = .slice (some ⟨w.heap.size, 0, none⟩) (n + s.size) (grownCap w (n + s.size) cap e) := by have := hr.symm.trans hr2; injection this
      subst e1
      exact .inr fun k hk => by simp [Value.ownBlock] at hk; omega
theorem wpList_app_str {ops : Array Oper} {rest : List Oper} {o : Oper} {a : Act} {Q : Exit → Act → World → Prop} (hgd : o.guard = none) (sl x : Operand) (t u : TypeId)
    (ho : o.op = .call { callee := .builtin .append, args := #[sl, x], argTypes := #[t, u] })
    (e : TypeId) (i : TypeInfo) (ht : P.underlying t = some (.slice e)) (hu : P.underlying u = some .string) (hi : P.info? e = some i) (hz : i.zero = some (.int .u8 0)) (hsize : i.size = 1) (hby : i.bytes = 1)
    (v : Value) (n : Nat) (xs : List Value) (hs : a.eval sl = v) (hown : w.ownsRow 0 e 1 v n xs) (s : ByteArray) (hx : a.eval x = .string s) (h63 : n + s.size ≤ maxLen) (hbytes : n + s.size ≤ 140737488355328)
    (h : ∀ v' w', w'.ownsRow 0 e 1 v' (n + s.size) (xs ++ Lib.strCells s) → w.grownBy w' v.ownBlock → RowAt w v v' → wpList P ops Q rest (a.put o.dst v') w') : wpList P ops Q (o :: rest) a w := by
  refine wpList_plain hgd fun K hK => ?_
  obtain ⟨v', w', hr, h2, h3, h4⟩ := append_str_law (P := P) w t u o.type e i ht hu hi hz hsize hby v n xs hown s h63 hbytes
  unfold Oper.wp execOp
  simp only [ho, resolve, invoke, builtin, Sem.run_bind, Sem.run_pure, Result.andThen_ok, List.map_toArray, List.map_cons, List.map_nil, hs, hx, hr]
  exact hK _ _ (h v' w' h2 h3 h4)
end
/-- What a write does: its own address is stored where there was none; perhaps a new block; an append to the row; the row is stored. -/
def Wrote (T e : TypeId) (b : Nat) (p v0 : Value) (bs news : List Value) (w w' : World) : Prop :=
  ∃ w1 w2 w3 v', ((w1 = w ∧ p = .pointer (some ⟨b, 0, none⟩)) ∨ (w1 = w.setCell ⟨b, 0, none⟩ (.pointer (some ⟨b, 0, none⟩)) ∧ p = .pointer none)) ∧ (w2 = w1 ∨ ∃ o, w2 = w1.alloc o) ∧
    w3.ownsRow 0 e 1 v' (bs.length + news.length) (bs ++ news) ∧ w2.grownBy w3 v0.ownBlock ∧ RowAt w2 v0 v' ∧ w' = w3.setCell ⟨b, 1, none⟩ v'
set_option maxHeartbeats 1000000 in
set_option maxRecDepth 100000 in
/-- String, of a builder that holds a byte. -/
theorem bld_string (L : Lays.n169 P ρ) (X : Builder.Extra P ρ) (b : Nat) (p v : Value) (l : List UInt8) (w : World) (hbk : w.heap[b]? = some (.cells #[p, v] (ρ.t 72) (0, 0))) (hown : w.ownsRow 0 (ρ.t 5) 1 v l.length (Lib.byteCells l)) (h0 : l ≠ []) :
    Calls P (ρ.f 169) #[.pointer (some ⟨b, 0, none⟩)] w fun e w' => e = .returned (.string ⟨l.toArray⟩) ∧ ∃ g, v.ownBlock = some g ∧ w' = w.drew.freeze ⟨g, 0, none⟩ l.length := by
  have hl0 : l.length ≠ 0 := by simpa using h0
  obtain ⟨g, cap, cur, rfl, hbg, hg, hnc, hcm, hcs, htake⟩ : ∃ g cap cur, v = .slice (some ⟨g, 0, none⟩) l.length cap ∧ 0 ≤ g ∧ w.heap[g]? = some (.cells cur (ρ.t 5) (0, 0)) ∧ l.length ≤ cap ∧ cap ≤ maxLen ∧ cur.size = cap * 1 ∧ cur.toList.take (l.length * 1) = Lib.byteCells l := by
    rcases hown.2 with ⟨_, hz⟩ | ⟨g, cap, cur, hv, r⟩
    · exact absurd hz hl0
    · exact ⟨g, cap, cur, hv, r⟩
  have c1 : w.drew.cell? ⟨b, 1, none⟩ = some (.slice (some ⟨g, 0, none⟩) l.length cap) := by
    have : w.drew.heap[b]? = some (.cells #[p, .slice (some ⟨g, 0, none⟩) l.length cap] (ρ.t 72) (0, 0)) := hbk
    rw [Lib.cell_of_heap this]; rfl
  have hSD : (Builtin.unsafeSliceData_ #[(ρ.t 37)] (ρ.t 127) #[.slice (some ⟨g, 0, none⟩) l.length cap]).run P w.drew = .ok (.pointer (some ⟨g, 0, none⟩)) w.drew :=
    Lib.run_unsafeSliceData_row _ _ _ _ _ _ (by omega)
  have hUS : (Builtin.unsafeString_ #[(ρ.t 127), (ρ.t 3)] (ρ.t 9) #[.pointer (some ⟨g, 0, none⟩), .int .i64 l.length]).run P w.drew = .ok (.string ⟨l.toArray⟩) (w.drew.freeze ⟨g, 0, none⟩ l.length) := by
    refine Lib.run_unsafeString_row w.drew (ρ.t 127) (ρ.t 3) (ρ.t 9) (ρ.t 5) L.t127 X.cellsByte g cur.size (by have hg' : w.drew.heap[g]? = some (.cells cur (ρ.t 5) (0, 0)) := hg; simp [World.shape?, hg']) l h0 (by omega) (by unfold maxLen at hcm; omega) ?_
    intro j x hx
    have := hown.cells (g := g) rfl j (.int .u8 x.toNat) (by simp [Lib.byteCells, hx])
    exact this
  have mixed := L.mixed
  have t72 := L.t72; have a72 := L.a72; have z72 := L.z72; have v72 := L.v72; have u72 := run_underlying L.t72
  have t70 := L.t70; have a70 := L.a70; have z70 := L.z70; have v70 := L.v70; have u70 := run_underlying L.t70
  have t37 := L.t37; have a37 := L.a37; have z37 := L.z37; have v37 := L.v37; have u37 := run_underlying L.t37
  have t127 := L.t127; have a127 := L.a127; have z127 := L.z127; have v127 := L.v127; have u127 := run_underlying L.t127
  have t3 := L.t3; have a3 := L.a3; have z3 := L.z3; have v3 := L.v3; have u3 := run_underlying L.t3
  have t9 := L.t9; have a9 := L.a9; have z9 := L.z9; have v9 := L.v9; have u9 := run_underlying L.t9
  have t5 := X.t5; have a5 := X.a5; have z5 := X.z5; have v5 := X.v5; have u5 := run_underlying X.t5
  go_enter L.f169, Body.n169_ntmps ρ
  go_wp2
  go_region_o
  all_goals (go_wp2; go_ret; exact ⟨rfl, g, rfl, rfl⟩)
end Go.Proofs


/- A builder of the own frame: what a write does to the state. -/
namespace Go.AI
open Go.Proofs
set_option maxRecDepth 20000
section
variable {E : Env} {K : Kn} {ρ : Nat → Nat → Loc} {w w' : World}
/-- The row behind an append, as an object. -/
theorem app_of_row {sh : Nat → Nat → Option Sh} {w3 : World} {l : Loc} {ty n m : Nat} {xs ys : List (List I)} {olds news : List Value} {v' : Value} (h : OwnAt K ρ sh w l (.arr ty 1 n xs true)) (ho : RepL K olds xs.flatten) (hn : RepL K news ys.flatten)
    (hy : ∀ d ∈ ys, d.length = 1) (hm : ys.length = m) (hrow : w3.ownsRow 0 ty 1 v' (n + m) (olds ++ news)) (hg : w.grownBy w3 (Value.slice l.base n l.cap).ownBlock) (hat : RowAt w (.slice l.base n l.cap) v')
    (hfresh : ∀ b o, w.heap.size ≤ b → K b o = none) :
    ∃ l' : Loc, v' = .slice l'.base (n + m) l'.cap ∧ (∀ (ρ' : Nat → Nat → Loc) (sh' : Nat → Nat → Option Sh), OwnAt K ρ' sh' w3 l' (.arr ty 1 (n + m) (xs ++ ys) true)) ∧ Apnd K w w3 l l' := by
  have hel : ∀ d ∈ xs ++ ys, d.length = 1 := fun d hd => by
    rcases List.mem_append.1 hd with h1 | h1
    · exact h.1 d h1
    · exact hy d h1
  have hlen : (xs ++ ys).length = n + m := by simp [h.2.1, hm]
  have hbase : l.base = none ∨ l.base = some ⟨l.block, 0, none⟩ := by
    rcases h.2.2.2.2 with ⟨_, h1⟩ | ⟨h1, _⟩
    · exact .inl h1
    · exact .inr h1
  have hold : ∀ b, b < w.heap.size → (l.base ≠ none → b ≠ l.block) → w3.heap[b]? = w.heap[b]? := fun b hb hne => hg.block b hb fun e => by
    rcases hbase with h1 | h1
    · rw [h1] at e; simp [Value.ownBlock] at e
    · rw [h1] at e
      simp only [Value.ownBlock, Option.some.injEq] at e
      exact hne (by rw [h1]; simp) e
  rcases hrow.2 with ⟨rfl, h0⟩ | ⟨g, cap, cur, rfl, _, hg3, hnc, hcm, hcs, htake⟩
  · refine ⟨⟨0, 0, none⟩, by rw [h0], fun ρ' sh' => ⟨hel, hlen, by simp only; omega, Nat.zero_le _, .inl ⟨rfl, rfl⟩⟩, ⟨hg.size, hold, ⟨hg.tape, hg.os, hg.output⟩, fun e => absurd rfl e⟩⟩
  · have hKg : ∀ o, K g o = none := by
      rcases hat with h1 | h1
      · rcases hbase with h2 | h2
        · rw [h2] at h1; simp [Value.ownBlock] at h1
        · rw [h2] at h1
          simp only [Value.ownBlock, Option.some.injEq] at h1
          subst h1
          rcases h.2.2.2.2 with ⟨_, h3⟩ | ⟨_, c, _, _, _, h4, _⟩
          · rw [h2] at h3; cases h3
          · exact h4 rfl
      · exact fun o => hfresh g o (h1 g rfl)
    have htk : cur.toList.take ((n + m) * 1) = olds ++ news := htake
    refine ⟨⟨g, cap, some ⟨g, 0, none⟩⟩, rfl, fun ρ' sh' => ⟨hel, hlen, hnc, hcm, .inr ⟨rfl, cur, hg3, hcs, ?_, fun _ o => hKg o, fun o _ => hKg o, fun e => by cases e⟩⟩, ⟨hg.size, hold, ⟨hg.tape, hg.os, hg.output⟩, fun _ => ?_⟩⟩
    · rw [htk, List.flatten_append]
      exact ho.append hn
    · rcases hat with h1 | h1
      · rcases hbase with h2 | h2
        · rw [h2] at h1; simp [Value.ownBlock] at h1
        · rw [h2] at h1
          simp only [Value.ownBlock, Option.some.injEq] at h1
          exact .inr ⟨by rw [h2]; simp, h1⟩
      · exact .inl (h1 g rfl)
/-- What a write of a builder is to do. -/
def WSpec (P : Program) (f : FuncId) (T ty : TypeId) (res x : Value) (news : List Value) : Prop := ∀ (b : Nat) (p v0 : Value) (bs : List Value) (w : World), (p = .pointer none ∨ p = .pointer (some ⟨b, 0, none⟩)) →
  w.heap[b]? = some (.cells #[p, v0] T (0, 0)) → w.ownsRow 0 ty 1 v0 bs.length bs → v0.ownBlock ≠ some b → bs.length + news.length ≤ 140737488355328 →
  Calls P f #[.pointer (some ⟨b, 0, none⟩), x] w fun e w' => e = .returned res ∧ Wrote T ty b p v0 bs news w w'
/-- A call, by what it does to the state. -/
def Wp (c : Cx) (o : Oper) (s : St) (f : FuncId) (args : List D) (s' : St) : Prop := ∀ K ρ a w, Inv c.E K ρ s a w → (∃ vs, (execOp a.eval o).run c.P w = (callFunc f vs.toArray).run c.P w ∧ RepDL K ρ (shape s.S) vs args) →
  ∀ (next : Act → World → Prop) (Qe : Exit → Act → World → Prop), (∀ v w' K' ρ', Inv c.E K' ρ' s' (a.put o.dst v) w' → next (a.put o.dst v) w') → o.wp c.P a w next Qe
theorem does_write {c : Cx} {s : St} {o : Oper} {f : FuncId} {t nm nm2 n m T ty : Nat} {dp dx rd : D} {x res : Value} {news : List Value} {xs ys : List (List I)} {H : Heap} {O : List Heap}
    (hspec : WSpec c.P f T ty res x news) (hent : ∀ args w, (callFunc f args).run c.P w = .ok (.enter f args) w) (hx : ∀ K ρ sh v, RepD K ρ sh v dx → v = x) (hr : ∀ K ρ sh, RepD K ρ sh res rd)
    (hdp : dp = .i (.v (.pointer none)) ∨ dp = .own 0 nm 0 0) (ht : o.dst = some t) (hn : t < s.n) (hS : s.S = H :: O) (hb : look H nm = some (.tb T [dp, .osl 0 nm2])) (ha : look H nm2 = some (.arr ty 1 n xs true))
    (hne : nm ≠ nm2) (hnews : ∀ K, RepL K news ys.flatten) (hy : ∀ d ∈ ys, d.length = 1) (hm : ys.length = m) (hlim : n + m ≤ 140737488355328) :
    Wp c o s f [.own 0 nm 0 0, dx] { σ := (t, rd) :: killσ nm2 s.σ, S := ((nm, .tb T [.own 0 nm 0 0, .osl 0 nm2]) :: (nm2, .arr ty 1 (n + m) (xs ++ ys) true) :: killH nm2 ((nm, .tb T [.own 0 nm 0 0, .osl 0 nm2]) :: H)) :: O, n := s.n } := by
  intro K ρ a w hi ⟨vs, hrun, hrep⟩ next Qe hnext
  have hh := hi.h
  rw [hS] at hh hrep
  have hob : objAt (H :: O) 0 nm = some (.tb T [dp, .osl 0 nm2]) := by simpa [objAt] using hb
  have hoa : objAt (H :: O) 0 nm2 = some (.arr ty 1 n xs true) := by simpa [objAt] using ha
  have e0 : (fun d n => ρ (0 + d) n) = ρ := by funext d n; rw [Nat.zero_add]
  have s0 : ∀ S : List Heap, shape (S.drop 0) = shape S := fun S => by rw [List.drop_zero]
  have hwb := hh.own _ _ _ hob
  rw [e0, s0] at hwb
  obtain ⟨cur, hc, hrc, hKb⟩ := hwb
  have hwa := hh.own _ _ _ hoa
  rw [e0, s0] at hwa
  obtain ⟨olds, hro, hrow⟩ := own_row hwa
  have hol : olds.length = n := by simpa using hrow.1
  have hshb : shape (H :: O) 0 nm = some .box := by simp [shape, hob, Ob.sh]
  have hsha : shape (H :: O) 0 nm2 = some (.arr 1 n) := by simp [shape, hoa, Ob.sh]
  obtain ⟨p, v0, hcur, hp, hv0⟩ : ∃ p v0, cur = #[p, v0] ∧ RepD K ρ (shape (H :: O)) p dp ∧ RepD K ρ (shape (H :: O)) v0 (.osl 0 nm2) := by
    generalize hL : cur.toList = L at hrc
    cases hrc with
    | cons h1 h2 => cases h2 with
      | cons h3 h4 => cases h4; exact ⟨_, _, Array.ext' (by rw [hL]), h1, h3⟩
  subst hcur
  have hv0 := inv_osl hv0 hsha
  subst hv0
  have hpp : p = .pointer none ∨ p = .pointer (some ⟨(ρ 0 nm).block, 0, none⟩) := by
    rcases hdp with rfl | rfl
    · exact .inl (inv_v hp)
    · exact .inr (inv_box hp hshb)
  have hnb : (Value.slice (ρ 0 nm2).base n (ρ 0 nm2).cap).ownBlock ≠ some (ρ 0 nm).block := by
    intro e
    rcases hwa.2.2.2.2 with ⟨_, h1⟩ | ⟨h1, _⟩
    · rw [h1] at e; simp [Value.ownBlock] at e
    · rw [h1] at e
      simp only [Value.ownBlock, Option.some.injEq] at e
      exact hne (hh.inj 0 nm _ 0 nm2 _ hob hoa trivial (by show _ ≠ none; rw [h1]; simp) e.symm).2
  obtain ⟨rfl⟩ : vs = [.pointer (some ⟨(ρ 0 nm).block, 0, none⟩), x] := by
    cases hrep with
    | cons h1 h2 => cases h2 with
      | cons h3 h4 => cases h4; rw [inv_box h1 hshb, hx _ _ _ _ h3]
  rw [hent] at hrun
  simp only [Oper.wp, hrun, Oper.upon]
  have hml : news.length = m := by
    have := (hnews K).length
    rw [this, flat_len ys hy, hm]; omega
  refine (hspec _ p _ olds w hpp hc (by rw [hol]; exact hrow) hnb (by rw [hol, hml]; exact hlim)).mono ?_
  rintro e w' ⟨rfl, w1, w2, w3, v', h1, h2, hrow3, hgb, hat, rfl⟩
  rw [hol, hml] at hrow3
  have e1 : (fun d n => shape (H :: O) (0 + d) n) = shape (H :: O) := by funext d n; rw [Nat.zero_add]
  have hcells : RepDL K (fun d n => ρ (0 + d) n) (fun d n => shape (H :: O) (0 + d) n) [.pointer (some ⟨(ρ 0 nm).block, 0, none⟩), .slice (ρ 0 nm2).base n (ρ 0 nm2).cap] [.own 0 nm 0 0, .osl 0 nm2] := by
    rw [e0, e1]
    exact .cons (.box hshb) (.cons (.osl hsha) .nil)
  have hI1 : HInv c.E K ρ (setAt (H :: O) 0 nm (.tb T [.own 0 nm 0 0, .osl 0 nm2])) w1 ∧ w1.heap[(ρ 0 nm).block]? = some (.cells #[.pointer (some ⟨(ρ 0 nm).block, 0, none⟩), .slice (ρ 0 nm2).base n (ρ 0 nm2).cap] T (0, 0)) := by
    rcases h1 with ⟨rfl, rfl⟩ | ⟨rfl, rfl⟩
    · exact ⟨hh.put hob rfl trivial trivial rfl (fun _ _ => rfl) ⟨rfl, rfl, rfl⟩ (fun o' x' hx' => by rw [hKb] at hx'; cases hx') ⟨_, hc, hcells, hKb⟩, hc⟩
    · exact ⟨hh.put hob rfl trivial trivial (by simp [World.setCell]) (fun b hb => Go.Deep.blk_setCell_other w _ _ b hb) ⟨rfl, rfl, rfl⟩ (fun o' x' hx' => by rw [hKb] at hx'; cases hx') ⟨_, heap_set0 hc, hcells, hKb⟩, heap_set0 hc⟩
  obtain ⟨hI1, hc1⟩ := hI1
  have hI1 : HInv c.E K ρ (((nm, .tb T [.own 0 nm 0 0, .osl 0 nm2]) :: H) :: O) w1 := hI1
  have hlt1 : (ρ 0 nm).block < w1.heap.size := by
    rcases Nat.lt_or_ge (ρ 0 nm).block w1.heap.size with h' | h'
    · exact h'
    · simp [Array.getElem?_eq_none h'] at hc1
  have hI2 : HInv c.E K ρ (((nm, .tb T [.own 0 nm 0 0, .osl 0 nm2]) :: H) :: O) w2 ∧ w2.heap[(ρ 0 nm).block]? = some (.cells #[.pointer (some ⟨(ρ 0 nm).block, 0, none⟩), .slice (ρ 0 nm2).base n (ρ 0 nm2).cap] T (0, 0)) ∧ w1.heap.size ≤ w2.heap.size := by
    rcases h2 with rfl | ⟨o', rfl⟩
    · exact ⟨hI1, hc1, Nat.le_refl _⟩
    · exact ⟨(HInv.grow (S := ((nm, .tb T [.own 0 nm 0 0, .osl 0 nm2]) :: H) :: O) rfl hI1 (fun _ _ _ e => e) (fun _ h => by simp [look] at h) (grow_none hI1 (.inl rfl) o')).1, by rw [heap_alloc_old w1 o' hlt1]; exact hc1, by simp [World.size_alloc]⟩
  obtain ⟨hI2, hc2, hsz2⟩ := hI2
  have hc3 : w3.heap[(ρ 0 nm).block]? = some (.cells #[.pointer (some ⟨(ρ 0 nm).block, 0, none⟩), .slice (ρ 0 nm2).base n (ρ 0 nm2).cap] T (0, 0)) := by
    rw [hgb.block _ (by omega) (fun e => hnb e.symm)]
    exact hc2
  have hlk : look ((nm, Ob.tb T [.own 0 nm 0 0, .osl 0 nm2]) :: H) nm2 = some (.arr ty 1 n xs true) := by
    rw [look_cons, if_neg hne]; exact ha
  have hoa2 : objAt (((nm, Ob.tb T [.own 0 nm 0 0, .osl 0 nm2]) :: H) :: O) 0 nm2 = some (.arr ty 1 n xs true) := by simpa [objAt] using hlk
  have hob2 : objAt (((nm, Ob.tb T [.own 0 nm 0 0, .osl 0 nm2]) :: H) :: O) 0 nm = some (.tb T [.own 0 nm 0 0, .osl 0 nm2]) := by simp [objAt, look_cons]
  have hwa2 := hI2.own _ _ _ hoa2
  rw [e0, s0] at hwa2
  obtain ⟨l', rfl, hown', hap⟩ := app_of_row hwa2 hro (hnews K) hy hm hrow3 hgb hat (fun b o hb => hI2.K_fresh hb)
  have hKo : backed (ρ 0 nm2) (.arr ty 1 n xs true) → ∀ o, K (ρ 0 nm2).block o = none := by
    intro hbk
    obtain ⟨_, _, _, _, h5⟩ := hwa
    rcases h5 with ⟨_, h6⟩ | ⟨_, c, _, _, _, h9, _⟩
    · exact absurd h6 hbk
    · exact h9 rfl
  obtain ⟨hI3, hbut⟩ := hI2.renew (nm := nm2) (dst := nm2) hlk (by rw [look_killH]; simp) hap Iff.rfl (ob' := .arr ty 1 (n + m) (xs ++ ys) true) Iff.rfl hKo hown'
  generalize hS3 : (((nm2, Ob.arr ty 1 (n + m) (xs ++ ys) true) :: killH nm2 ((nm, Ob.tb T [.own 0 nm 0 0, .osl 0 nm2]) :: H)) :: O) = S3 at hI3 hbut
  have hob3 : objAt S3 0 nm = some (Ob.kill nm2 (.tb T [.own 0 nm 0 0, .osl 0 nm2])) := by
    rw [← hS3]
    simp only [objAt, List.getElem?_cons_zero, look_cons, if_neg (Ne.symm hne), look_killH, if_neg hne, if_true, Option.map_some]
  obtain ⟨hb1, hb2⟩ := hbut 0 nm .box (.inr hne) (by simp [shape, hob2, Ob.sh])
  have hsh3 : shape S3 0 nm2 = some (.arr 1 (n + m)) := by
    rw [← hS3]
    simp [shape, objAt, look_cons, Ob.sh]
  have f0 : (fun d n => upd ρ nm2 l' (0 + d) n) = upd ρ nm2 l' := by funext d n; rw [Nat.zero_add]
  have f1 : (fun d n => shape S3 (0 + d) n) = shape S3 := by funext d n; rw [Nat.zero_add]
  have hcells3 : RepDL K (fun d n => upd ρ nm2 l' (0 + d) n) (fun d n => shape S3 (0 + d) n) [.pointer (some ⟨(ρ 0 nm).block, 0, none⟩), .slice l'.base (n + m) l'.cap] [.own 0 nm 0 0, .osl 0 nm2] := by
    rw [f0, f1]
    have g1 := RepD.box (K := K) (ρ := upd ρ nm2 l') (off := 0) hb1
    rw [hb2] at g1
    have g2 := RepD.osl (K := K) (ρ := upd ρ nm2 l') hsh3
    rw [upd_same] at g2
    exact .cons g1 (.cons g2 .nil)
  have hI4 : HInv c.E K (upd ρ nm2 l') (setAt S3 0 nm (.tb T [.own 0 nm 0 0, .osl 0 nm2])) (w3.setCell ⟨(ρ 0 nm).block, 1, none⟩ (.slice l'.base (n + m) l'.cap)) := by
    refine hI3.put hob3 rfl trivial trivial (by simp [World.setCell]) (fun b hb => Go.Deep.blk_setCell_other w3 _ _ b (by rw [hb2] at hb; exact hb)) ⟨rfl, rfl, rfl⟩ (fun o' x' hx' => by rw [hb2, hKb] at hx'; cases hx') ⟨_, by rw [hb2]; exact heap_set1 hc3, hcells3, fun o => by rw [hb2]; exact hKb o⟩
  have hS4 : setAt S3 0 nm (.tb T [.own 0 nm 0 0, .osl 0 nm2]) = ((nm, .tb T [.own 0 nm 0 0, .osl 0 nm2]) :: (nm2, .arr ty 1 (n + m) (xs ++ ys) true) :: killH nm2 ((nm, .tb T [.own 0 nm 0 0, .osl 0 nm2]) :: H)) :: O := by rw [← hS3]; rfl
  have hsh4 : shape (setAt S3 0 nm (.tb T [.own 0 nm 0 0, .osl 0 nm2])) = shape S3 := shape_setAt hob3 rfl
  have hsh2 : shape (((nm, Ob.tb T [.own 0 nm 0 0, .osl 0 nm2]) :: H) :: O) = shape (H :: O) := shape_setAt (S := H :: O) hob rfl
  rw [hS4] at hI4 hsh4
  rw [hsh2] at hbut
  refine hnext _ _ K (upd ρ nm2 l') ?_
  · rw [ht]
    refine ⟨hI4, hi.defers, by simp [Act.put]; exact hi.size, fun t' d' e' => ?_⟩
    rw [tmps_put (by rw [hi.size]; exact hn)]
    simp only [look_cons] at e'
    split at e'
    · rename_i e2
      simp only [Option.some.injEq] at e'
      subst e'
      rw [if_pos e2]
      exact hr _ _ _
    · rename_i e2
      rw [if_neg e2]
      rw [look_killσ] at e'
      cases hls : look s.σ t' with
      | none => simp [hls] at e'
      | some d0 =>
        simp only [hls, Option.map_some, Option.some.injEq] at e'
        subst e'
        have hr := hi.slots _ _ hls
        rw [hS] at hr
        show RepD _ _ (shape _) _ _
        rw [hsh4]
        exact hr.kill hbut
end
section
variable {c : Cx} {s : St} {k : List Item} {ops : Array Oper} {rest : List Nat} {o : Oper}
/-- At a pause before a call: what it does. -/
theorem g_callP (hT : TOk c.P c.T) (hfn : c.P.funcs[c.f]? = some c.fn) {i t : Nat} {f : FuncId} {args : List D} {s' : St} (ho : ops[i]? = some o) (hg : o.guard = none) (hd : o.dst = some t) (hex : exec c.T s o = .call f args) (hw : Wp c o s f args s')
    (h : GM c (run c.T c.stop 1000 (.inRegion ops rest :: k) s')) : GM c (.pause ops i rest o s k) := by
  have hk : RG c ops rest s' (Rch c k) := run_sound hT hfn 1000 (.inRegion ops rest :: k) _ h.h
  refine ⟨?_⟩
  intro K ρ a w hi
  simp only [wpOps, ho, wanted_of hi (show wantedD ops s o = some true by unfold wantedD; rw [hg]), if_true]
  refine .inl (hw K ρ a w hi ?_ _ _ fun v w' K' ρ' hi' => hk K' ρ' _ w' hi')
  have := exec_snd hT hi.h (.inl hd) fun x _ => hi.ev x
  rw [hex] at this
  exact this
end
section
/-- Bytes, as the elements of a row. -/
def u8l (l : List UInt8) : List (List I) := l.map fun b => [.v (.int .u8 b.toNat)]
theorem u8l_flat : ∀ l : List UInt8, (u8l l).flatten = l.map fun b => I.v (.int .u8 b.toNat)
  | [] => rfl
  | b :: r => by
    have := u8l_flat r
    unfold u8l at this ⊢
    rw [List.map_cons, List.flatten_cons, this]
    rfl
theorem u8l_el (l : List UInt8) : ∀ d ∈ u8l l, d.length = 1 := fun d hd => by
  unfold u8l at hd
  obtain ⟨b, _, rfl⟩ := List.mem_map.1 hd
  rfl
theorem u8l_rep (K : Kn) : ∀ l : List UInt8, RepL K (l.map fun b => Value.int .u8 b.toNat) (u8l l).flatten
  | [] => .nil
  | b :: r => by
    have := u8l_rep K r
    rw [u8l_flat] at this ⊢
    exact .cons (.v rfl) this
theorem repL_vals {K : Kn} : ∀ {vs : List Value} {l : List Value}, RepL K vs (l.map I.v) → vs = l
  | _, [], h => by cases h; rfl
  | _, x :: r, h => by
    cases h with
    | cons h1 h2 =>
      rw [repL_vals h2]
      cases h1
      rfl
theorem u8l_app (a b : List UInt8) : u8l a ++ u8l b = u8l (a ++ b) := by simp [u8l]
/-- What String of a builder is to do. -/
def SSpec (P : Program) (f : FuncId) (T ty : TypeId) : Prop := ∀ (b : Nat) (p v : Value) (l : List UInt8) (w : World), w.heap[b]? = some (.cells #[p, v] T (0, 0)) → w.ownsRow 0 ty 1 v l.length (Lib.byteCells l) → l ≠ [] →
  Calls P f #[.pointer (some ⟨b, 0, none⟩)] w fun e w' => e = .returned (.string ⟨l.toArray⟩) ∧ ∃ g, v.ownBlock = some g ∧ w' = w.drew.freeze ⟨g, 0, none⟩ l.length
theorem freeze_other (w : World) (g n k : Nat) (h : k ≠ g) : (w.freeze ⟨g, 0, none⟩ n).heap[k]? = w.heap[k]? := by
  unfold World.freeze
  split <;> simp [Array.getElem?_modify, Array.getElem?_setIfInBounds, Ne.symm h]
theorem freeze_rest (w : World) (g n : Nat) : (w.freeze ⟨g, 0, none⟩ n).tape = w.tape ∧ (w.freeze ⟨g, 0, none⟩ n).os = w.os ∧ (w.freeze ⟨g, 0, none⟩ n).output = w.output ∧ (w.freeze ⟨g, 0, none⟩ n).heap.size = w.heap.size := by
  unfold World.freeze
  split <;> simp
theorem does_bstr {c : Cx} {s : St} {o : Oper} {f : FuncId} {t nm nm2 T ty : Nat} {dp : D} {l : List UInt8} {H : Heap} {O : List Heap}
    (hspec : SSpec c.P f T ty) (hent : ∀ args w, (callFunc f args).run c.P w = .ok (.enter f args) w) (h0 : l ≠ [])
    (ht : o.dst = some t) (hn : t < s.n) (hS : s.S = H :: O) (hb : look H nm = some (.tb T [dp, .osl 0 nm2])) (ha : look H nm2 = some (.arr ty 1 l.length (u8l l) true)) :
    Wp c o s f [.own 0 nm 0 0] { σ := (t, .i (.v (.string ⟨l.toArray⟩))) :: killσ nm2 s.σ, S := ((nm2, .arr ty 1 0 [] true) :: killH nm2 H) :: O, n := s.n } := by
  intro K ρ a w hi ⟨vs, hrun, hrep⟩ next Qe hnext
  have hh := hi.h
  rw [hS] at hh hrep
  have hob : objAt (H :: O) 0 nm = some (.tb T [dp, .osl 0 nm2]) := by simpa [objAt] using hb
  have hoa : objAt (H :: O) 0 nm2 = some (.arr ty 1 l.length (u8l l) true) := by simpa [objAt] using ha
  have e0 : (fun d n => ρ (0 + d) n) = ρ := by funext d n; rw [Nat.zero_add]
  have s0 : ∀ S : List Heap, shape (S.drop 0) = shape S := fun S => by rw [List.drop_zero]
  have hwb := hh.own _ _ _ hob
  rw [e0, s0] at hwb
  obtain ⟨cur, hc, hrc, hKb⟩ := hwb
  have hwa := hh.own _ _ _ hoa
  rw [e0, s0] at hwa
  obtain ⟨olds, hro, hrow⟩ := own_row hwa
  have hold : olds = Lib.byteCells l := by
    rw [u8l_flat] at hro
    have : (l.map fun b => I.v (.int .u8 b.toNat)) = (l.map fun b => Value.int .u8 b.toNat).map I.v := by rw [List.map_map]; rfl
    rw [this] at hro
    exact repL_vals hro
  subst hold
  have hshb : shape (H :: O) 0 nm = some .box := by simp [shape, hob, Ob.sh]
  have hsha : shape (H :: O) 0 nm2 = some (.arr 1 l.length) := by simp [shape, hoa, Ob.sh]
  obtain ⟨p, v0, hcur, hv0⟩ : ∃ p v0, cur = #[p, v0] ∧ RepD K ρ (shape (H :: O)) v0 (.osl 0 nm2) := by
    generalize hL : cur.toList = L at hrc
    cases hrc with
    | cons h1 h2 => cases h2 with
      | cons h3 h4 => cases h4; exact ⟨_, _, Array.ext' (by rw [hL]), h3⟩
  subst hcur
  have hv0 := inv_osl hv0 hsha
  subst hv0
  obtain ⟨rfl⟩ : vs = [.pointer (some ⟨(ρ 0 nm).block, 0, none⟩)] := by
    cases hrep with
    | cons h1 h2 => cases h2; rw [inv_box h1 hshb]
  rw [hent] at hrun
  simp only [Oper.wp, hrun, Oper.upon]
  refine (hspec _ p _ l w hc hrow h0).mono ?_
  rintro e w' ⟨rfl, g, hgb, rfl⟩
  obtain ⟨r1, r2, r3, r4⟩ := freeze_rest w.drew g l.length
  have hbase : (ρ 0 nm2).base = some ⟨(ρ 0 nm2).block, 0, none⟩ := by
    rcases hwa.2.2.2.2 with ⟨_, h1⟩ | ⟨h1, _⟩
    · rw [h1] at hgb; simp [Value.ownBlock] at hgb
    · exact h1
  have hgb : (ρ 0 nm2).block = g := by rw [hbase] at hgb; simpa [Value.ownBlock] using hgb
  subst hgb
  have hKo : backed (ρ 0 nm2) (.arr ty 1 l.length (u8l l) true) → ∀ o, K (ρ 0 nm2).block o = none := by
    intro hbk
    obtain ⟨_, _, _, _, h5⟩ := hwa
    rcases h5 with ⟨_, h6⟩ | ⟨_, c, _, _, _, h9, _⟩
    · exact absurd h6 hbk
    · exact h9 rfl
  let l0 : Loc := ⟨0, 0, none⟩
  have hap : Apnd K w (w.drew.freeze ⟨(ρ 0 nm2).block, 0, none⟩ l.length) (ρ 0 nm2) l0 := by
    refine ⟨Nat.le_of_eq r4.symm, fun b _ hne => ?_, ⟨r1, r2, r3⟩, fun e => absurd rfl e⟩
    exact freeze_other w.drew _ _ _ (hne (by rw [hbase]; simp))
  obtain ⟨hI3, hbut⟩ := hh.renew (nm := nm2) (dst := nm2) ha (by rw [look_killH]; simp) hap Iff.rfl (ob' := .arr ty 1 0 [] true) Iff.rfl hKo (fun ρ' sh' => ⟨by simp, rfl, Nat.le_refl _, by simp [l0], .inl ⟨rfl, rfl⟩⟩)
  refine hnext _ _ K (upd ρ nm2 l0) ?_
  · rw [ht]
    refine ⟨hI3, hi.defers, by simp [Act.put]; exact hi.size, fun t' d' e' => ?_⟩
    rw [tmps_put (by rw [hi.size]; exact hn)]
    simp only [look_cons] at e'
    split at e'
    · rename_i e2
      simp only [Option.some.injEq] at e'
      subst e'
      rw [if_pos e2]
      exact .i (.v rfl)
    · rename_i e2
      rw [if_neg e2]
      rw [look_killσ] at e'
      cases hls : look s.σ t' with
      | none => simp [hls] at e'
      | some d0 =>
        simp only [hls, Option.map_some, Option.some.injEq] at e'
        subst e'
        have hr := hi.slots _ _ hls
        rw [hS] at hr
        exact hr.kill hbut
end
end Go.AI
