/- The layer of abstract runs, part 37. -/
import Derived.Test.YtdehnnadfbildaaGreatDoorStpZJ
set_option linter.unusedSimpArgs false
set_option linter.unusedVariables false
set_option linter.all false

namespace Go.AI
open Go.Proofs
set_option maxRecDepth 20000
theorem mid64 {a b : Nat} (ha : a ≤ max63) (hb : b ≤ max63) : IntKind.i64.wrap (IntKind.u64.wrap (IntKind.i64.wrap ((a : Int) + b)) / 2 ^ (1 : Int).toNat) = ((a + b) / 2 : Nat) := by
  simp only [max63] at ha hb
  have h1 : IntKind.u64.wrap (IntKind.i64.wrap ((a : Int) + b)) = (a : Int) + b := by
    simp only [IntKind.wrap, IntKind.bits, IntKind.signed]
    simp
    omega
  rw [h1, w64]
  · simp
  · simp; omega
  · simp; omega
/-- How many are less. -/
def lows (l : List Int) (x : Int) : Nat := (l.filter (· < x)).length
theorem lows_eq {l : List Int} {x : Int} {i : Nat} (hi : i ≤ l.length) (h1 : ∀ k (h : k < l.length), k < i → l[k] < x) (h2 : ∀ k (h : k < l.length), i ≤ k → x ≤ l[k]) : lows l x = i := by
  have e : l = l.take i ++ l.drop i := (List.take_append_drop i l).symm
  unfold lows
  rw [e, List.filter_append]
  have a1 : (l.take i).filter (fun y => decide (y < x)) = l.take i := by
    rw [List.filter_eq_self]
    intro y hy
    obtain ⟨k, hk, rfl⟩ := List.getElem_of_mem hy
    simp only [List.length_take] at hk
    have := h1 k (by omega) (by omega)
    simpa using this
  have a2 : (l.drop i).filter (fun y => decide (y < x)) = [] := by
    rw [List.filter_eq_nil_iff]
    intro y hy
    obtain ⟨k, hk, rfl⟩ := List.getElem_of_mem hy
    simp only [List.length_drop] at hk
    have := h2 (i + k) (by omega) (by omega)
    simpa using this
  rw [a1, a2]
  simp
  omega
theorem bsearch65 (O : List Heap) (l : List Int) (x : Int) (hl : l.length ≤ max63) (hs : l.Pairwise (· < ·)) : ASpec Tryz.prog 112 [ints l, ii x] O (.tup [ii (lows l x), bb (decide (x ∈ l))]) [] O := by
  have hsort : ∀ i j (hi : i < l.length) (hj : j < l.length), i < j → l[i] < l[j] := fun i j hi hj h => List.pairwise_iff_getElem.1 hs i j hi hj h
  refine aspec_intro Tk Tryz.func112 rfl Tryz.call112 Tryz.ntmps112 (Nat.le_of_ble_eq_true rfl) fun E => ?_
  refine rch_run Tk Tryz.func112 ?_
  refine rch_loop2 (fun p : Nat × Nat => [(0, ints l), (1, ii x), (6, ii l.length), (7, ii p.1), (8, ii p.2)]) (fun _ => []) (fun _ => O) 54
    (fun p => p.1 ≤ p.2 ∧ p.2 ≤ l.length ∧ (∀ k (h : k < l.length), k < p.1 → l[k] < x) ∧ ∀ k (h : k < l.length), p.2 ≤ k → x ≤ l[k]) (fun p => p.2 - p.1) (0, l.length)
    ⟨Nat.zero_le _, Nat.le_refl _, fun k h h' => by simp at h', fun k h h' => by simp at h'; omega⟩ ⟨rfl, rfl, rfl, rfl, rfl, trivial⟩ rfl trivial rfl rfl ?_
  rintro ⟨i, j⟩ ⟨hij, hj, hlo, hhi⟩ ih
  simp only at hij hj hlo hhi
  have hlj : j ≤ max63 := Nat.le_trans hj hl
  refine rch_run Tk Tryz.func112 ?_
  refine m_cnd Tk Tryz.func112 rfl (fun h1 => ?_) (fun h1 => ?_)
  · have h1 : i < j := by simpa using h1
    refine m_need Tk Tryz.func112 (by simp [IntKind.bits]) ?_
    have hm := mid64 (Nat.le_trans hij hlj) hlj
    have hmj : (i + j) / 2 < j := by omega
    refine m_need Tk Tryz.func112 (by rw [hm]; omega) ?_
    refine m_elem Tk Tryz.func112 (d := [vi (l[(i + j) / 2]'(by omega))]) (by rw [hm]; exact get_mapZ (f := fun x => [vi x]) (by omega)) ?_
    refine m_call Tk Tryz.func112 (less82 _ _ _) rfl rfl rfl rfl rfl ?_
    refine m_cnd Tk Tryz.func112 rfl (fun h2 => ?_) (fun h2 => ?_)
    · have h2 : l[(i + j) / 2] < x := by simpa using h2
      refine ih ((i + j) / 2 + 1, j) _ _ ⟨by show (i + j) / 2 + 1 ≤ j; omega, hj, fun k h h' => ?_, hhi⟩ (by simp only; omega) ⟨rfl, rfl, rfl, ?_, rfl, trivial⟩ rfl trivial rfl rfl
      · by_cases e : k = (i + j) / 2
        · subst e; exact h2
        · have h' : k < (i + j) / 2 + 1 := h'
          have := hsort k ((i + j) / 2) h (by omega) (by omega)
          omega
      · show D.i (.v (.int .i64 _)) = _
        rw [hm]
        exact congrArg ii (wsucc (n := j) (by omega) hlj)
    · have h2 : x ≤ l[(i + j) / 2] := by simpa using h2
      refine ih (i, (i + j) / 2) _ _ ⟨by show i ≤ (i + j) / 2; omega, by show (i + j) / 2 ≤ l.length; omega, hlo, fun k h h' => ?_⟩ (by simp only; omega) ⟨rfl, rfl, rfl, rfl, ?_, trivial⟩ rfl trivial rfl rfl
      · have h' : (i + j) / 2 ≤ k := h'
        by_cases e : k = (i + j) / 2
        · subst e; exact h2
        · have := hsort ((i + j) / 2) k (by omega) h (by omega)
          omega
      · show D.i (.v (.int .i64 _)) = _
        rw [hm]
  · have h1 : j ≤ i := by simpa using h1
    have hij : i = j := by omega
    subst hij
    have hlow : lows l x = i := lows_eq hj hlo hhi
    rw [hlow]
    have hnot : ∀ (hi : i < l.length), l[i] ≠ x → x ∉ l := by
      intro hi hne hm
      obtain ⟨k, hk, e⟩ := List.getElem_of_mem hm
      by_cases h3 : k < i
      · have := hlo k hk h3; omega
      · by_cases h4 : k = i
        · subst h4; exact hne e
        · have := hsort i k hi hk (by omega)
          have := hhi i hi (Nat.le_refl _)
          omega
    refine m_know Tk Tryz.func112 rfl (fun h1 => ?_) (fun h1 => ?_)
    · have h1 : i < l.length := by simpa using h1
      refine m_need Tk Tryz.func112 (by omega) ?_
      refine m_elem Tk Tryz.func112 (get_mapZ h1) ?_
      refine m_know Tk Tryz.func112 rfl (fun h2 => ?_) (fun h2 => ?_)
      · have h2 : l[i] = x := by simpa using h2
        refine m_ret' (hT := Tk) (r := .tup [ii _, bb _]) rfl rfl rfl trivial rfl rfl ?_
        have : x ∈ l := by rw [← h2]; simp
        simp [this]
      · have h2 : l[i] ≠ x := by simpa using h2
        refine m_need Tk Tryz.func112 (by omega) ?_
        refine m_elem Tk Tryz.func112 (get_mapZ h1) ?_
        refine m_call Tk Tryz.func112 (isNaN83 _ _) rfl rfl rfl rfl rfl ?_
        refine m_know Tk Tryz.func112 rfl (fun h1 => by cases h1) (fun _ => ?_)
        refine m_ret' (hT := Tk) (r := .tup [ii _, bb _]) rfl rfl rfl trivial rfl rfl ?_
        simp [hnot h1 h2]
    · have h1 : l.length ≤ i := by simpa using h1
      refine m_ret' (hT := Tk) (r := .tup [ii _, bb _]) rfl rfl rfl trivial rfl rfl ?_
      have : x ∉ l := by
        intro hm
        obtain ⟨k, hk, e⟩ := List.getElem_of_mem hm
        have := hlo k hk (by omega)
        omega
      simp [this]
theorem contains49 (O : List Heap) (l : List Int) (x : Int) (hl : l.length ≤ max63) (hs : l.Pairwise (· < ·)) : ASpec Tryz.prog 86 [ints l, ii x] O (bb (decide (x ∈ l))) [] O := by
  refine aspec_intro Tk Tryz.func86 rfl Tryz.call86 Tryz.ntmps86 (Nat.le_of_ble_eq_true rfl) fun E => ?_
  refine rch_run Tk Tryz.func86 ?_
  refine m_call Tk Tryz.func86 (bsearch65 _ l x hl hs) rfl rfl rfl rfl rfl ?_
  refine m_ret' (hT := Tk) (r := bb _) rfl rfl rfl trivial rfl rfl ?_
  rfl
end Go.AI


namespace Go.AI
open Go.Proofs
set_option maxRecDepth 20000
abbrev big : Nat := 140737488355328
abbrev oints (l : List Int) : Ob := .arr 3 1 l.length (l.map fun x => [vi x]) true
theorem ret_osl (H : Heap) (nm : Nat) (ob : Ob) : D.ret H [(nm, ob)] (.osl 0 nm) = .osl 0 nm := by
  simp [D.ret, D.ret2, D.ret1, memH, look_cons]
theorem takes_one (nm : Nat) (ob ob' : Ob) (Hr : Heap) (h : ob' = ob.ret [(nm, ob)] Hr) : takesB [(nm, ob)] Hr [(nm, ob')] := ⟨⟨ob, by simp [look], h⟩, trivial⟩
theorem clone57 (nm : Nat) (O : List Heap) (l : List Int) (hl : l.length * 8 ≤ big) : ASpec Tryz.prog 55 [ints l] O (.osl 0 nm) [(nm, oints l)] O := by
  refine aspec_intro Tk Tryz.func55 rfl Tryz.call55 Tryz.ntmps55 (Nat.le_of_ble_eq_true rfl) fun E => ?_
  refine rch_run Tk Tryz.func55 ?_
  refine m_anyb Tk Tryz.func55 rfl rfl fun b hb => ?_
  refine m_cnd Tk Tryz.func55 rfl (fun h1 => ?_) (fun h1 => ?_)
  · have hl0 : l = [] := List.eq_nil_of_length_eq_zero (hb h1)
    subst hl0
    refine ret_wk (wk_nil 2 nm 3 1 rfl rfl rfl) ?_
    exact m_ret' (hT := Tk) (r := .osl 0 nm) rfl rfl rfl (takes_one _ _ _ _ rfl) (ret_osl _ _ _) rfl rfl
  · refine m_need Tk Tryz.func55 ⟨?_, ?_⟩ ?_
    · show (0 + l.length) * 8 ≤ 140737488355328
      simp only [big] at hl; omega
    · simp only [big] at hl; omega
    refine ret_wk (wk_cut (l := [(2, .osl 0 7)]) (Hv := [(7, .arr 3 1 (0 + l.length) ([] ++ l.map fun x => [vi x]) true)]) ⟨rfl, trivial⟩ rfl ⟨rfl, trivial⟩ rfl rfl) ?_
    refine ret_wk (wk_rename 7 nm rfl rfl) ?_
    refine m_ret' (hT := Tk) (r := .osl 0 nm) rfl rfl rfl (takes_one _ _ _ _ ?_) (ret_osl _ _ _) rfl rfl
    rw [Nat.zero_add]
    rfl
theorem equal47 (O : List Heap) (l r : List Int) (hl : l.length ≤ max63) : ASpec Tryz.prog 60 [ints l, ints r] O (bb (decide (l = r))) [] O := by
  refine aspec_intro Tk Tryz.func60 rfl Tryz.call60 Tryz.ntmps60 (Nat.le_of_ble_eq_true rfl) fun E => ?_
  refine rch_run Tk Tryz.func60 ?_
  refine m_cnd Tk Tryz.func60 rfl (fun h1 => ?_) (fun h1 => ?_)
  · refine m_ret' (hT := Tk) (r := bb _) rfl rfl rfl trivial rfl rfl ?_
    have h1 : (l.length : Int) ≠ r.length := by simpa using h1
    have : l ≠ r := fun e => h1 (by rw [e])
    simp [this]
  have hlen : l.length = r.length := by
    have : (l.length : Int) = r.length := by simpa using h1
    omega
  refine rch_loop_ind (fun i : Nat => [(0, ints l), (1, ints r), (4, bb false), (12, ii l.length), (13, ii i)]) (fun _ => [] :: O) 26 (fun i => i ≤ l.length ∧ ∀ j (h : j < l.length), j < i → l[j] = r[j]) (fun i => l.length - i) 0 ⟨Nat.zero_le _, fun j h h' => by omega⟩ ⟨rfl, rfl, rfl, rfl, rfl, trivial⟩ rfl rfl ?_
  intro i ⟨hi, hno⟩ ih
  refine rch_run Tk Tryz.func60 ?_
  refine m_cnd Tk Tryz.func60 rfl (fun h1 => ?_) (fun h1 => ?_)
  · have h1 : i < l.length := by simpa using h1
    have h1' : i < r.length := by omega
    refine m_drawn Tk Tryz.func60 mixedT rfl ?_
    refine d_need Tk (by omega) ?_
    refine d_elem Tk (get_mapZ h1) ?_
    refine d_need Tk (by omega) ?_
    refine d_elem Tk (get_mapZ h1') ?_
    refine d_done Tk Tryz.func60 (by kernel_rfl) ?_
    refine m_cnd Tk Tryz.func60 rfl (fun h2 => ?_) (fun h2 => ?_)
    · refine m_ret' (hT := Tk) (r := bb _) rfl rfl rfl trivial rfl rfl ?_
      have h2 : l[i] ≠ r[i] := by simpa using h2
      have : l ≠ r := fun e => h2 (by subst e; rfl)
      simp [this]
    · have h2 : l[i] = r[i] := by simpa using h2
      refine ih (i + 1) _ ?_ ?_ ⟨rfl, rfl, rfl, rfl, congrArg ii (wsucc h1 hl), trivial⟩ rfl rfl
      · refine ⟨h1, fun j h h' => ?_⟩
        by_cases e : j = i
        · subst e; exact h2
        · exact hno j h (by omega)
      · omega
  · have h1 : l.length ≤ i := by simpa using h1
    refine m_ret' (hT := Tk) (r := bb _) rfl rfl rfl trivial rfl rfl ?_
    have : l = r := List.ext_getElem hlen fun j h h' => hno j h (by omega)
    simp [this]
/-- CheckSet: 0 ok, 2 a number out of range, 5 not in order. -/
def checkSet (n : Int) : List Int → Option Int → Int
  | [], _ => 0
  | x :: r, prev => if x < 0 ∨ x ≥ n then 2 else if prev.any (x ≤ ·) then 5 else checkSet n r (some x)
theorem checkSet59 (O : List Heap) (l : List Int) (n : Int) (hl : l.length ≤ max63) : ASpec Tryz.prog 56 [ints l, ii n] O (ii (checkSet n l none)) [] O := by
  refine aspec_intro Tk Tryz.func56 rfl Tryz.call56 Tryz.ntmps56 (Nat.le_of_ble_eq_true rfl) fun E => ?_
  refine rch_run Tk Tryz.func56 ?_
  let prev : Nat → Option Int := fun i => if i = 0 then none else l[i - 1]?
  refine rch_loop_ind (fun i : Nat => [(0, ints l), (1, ii n), (7, ints l), (8, ii l.length), (9, ii i)]) (fun _ => [] :: O) 33 (fun i => i ≤ l.length ∧ checkSet n l none = checkSet n (l.drop i) (prev i)) (fun i => l.length - i) 0 ⟨Nat.zero_le _, rfl⟩ ⟨rfl, rfl, rfl, rfl, rfl, trivial⟩ rfl rfl ?_
  intro i ⟨hi, hno⟩ ih
  rw [hno]
  refine rch_run Tk Tryz.func56 ?_
  refine m_cnd Tk Tryz.func56 rfl (fun h1 => ?_) (fun h1 => ?_)
  · have h1 : i < l.length := by simpa using h1
    rw [hno] at ih
    have hd : l.drop i = l[i] :: l.drop (i + 1) := (List.drop_eq_getElem_cons h1)
    have hnext : prev (i + 1) = some l[i] := by simp [prev, h1]
    refine m_need Tk Tryz.func56 (by omega) ?_
    refine m_elem Tk Tryz.func56 (get_mapZ h1) ?_
    refine m_know Tk Tryz.func56 rfl (fun h2 => ?_) (fun h2 => ?_)
    · have h2 : l[i] < 0 := by simpa using h2
      refine m_cnd Tk Tryz.func56 rfl (fun _ => ?_) (fun h => by cases h)
      refine m_ret' (hT := Tk) (r := ii _) rfl rfl rfl trivial rfl rfl ?_
      rw [hd]
      simp only [checkSet]
      rw [if_pos (.inl h2)]
    have h2 : ¬ l[i] < 0 := by simpa using h2
    refine m_cnd Tk Tryz.func56 rfl (fun h3 => ?_) (fun h3 => ?_)
    · have h3 : l[i] ≥ n := by simpa using h3
      refine m_ret' (hT := Tk) (r := ii _) rfl rfl rfl trivial rfl rfl ?_
      rw [hd]
      simp only [checkSet]
      rw [if_pos (.inr h3)]
    have h3 : ¬ l[i] ≥ n := by simpa using h3
    refine m_know Tk Tryz.func56 rfl (fun h4 => ?_) (fun h4 => ?_)
    · have h4 : 0 < i := by simpa using h4
      have hw : IntKind.i64.wrap ((i : Int) - 1) = ((i - 1 : Nat) : Int) := by
        simp only [max63] at hl
        rw [w64 (by omega) (by omega)]
        omega
      have hp : prev i = some (l[i - 1]'(by omega)) := by
        simp only [prev, if_neg (show ¬ i = 0 by omega)]
        exact List.getElem?_eq_getElem (by omega)
      refine m_need Tk Tryz.func56 (by rw [hw]; omega) ?_
      refine m_elem Tk Tryz.func56 (by rw [hw]; exact get_mapZ (f := fun x => [vi x]) (show i - 1 < l.length by omega)) ?_
      refine m_cnd Tk Tryz.func56 rfl (fun h5 => ?_) (fun h5 => ?_)
      · have h5 : l[i] ≤ l[i - 1] := by simpa using h5
        refine m_ret' (hT := Tk) (r := ii _) rfl rfl rfl trivial rfl rfl ?_
        rw [hd, hp]
        simp only [checkSet]
        rw [if_neg (by omega), if_pos (by simpa using h5)]
      · have h5 : ¬ l[i] ≤ l[i - 1] := by simpa using h5
        refine ih (i + 1) _ ⟨h1, ?_⟩ (by omega) ⟨rfl, rfl, rfl, rfl, congrArg ii (wsucc h1 hl), trivial⟩ rfl rfl
        rw [hnext, hd, hp]
        simp only [checkSet]
        rw [if_neg (by omega), if_neg (by simpa using h5)]
    · have h4 : i = 0 := by
        have : ¬ 0 < i := by simpa using h4
        omega
      refine m_cnd Tk Tryz.func56 rfl (fun h => by cases h) (fun _ => ?_)
      refine ih (i + 1) _ ⟨h1, ?_⟩ (by omega) ⟨rfl, rfl, rfl, rfl, congrArg ii (wsucc h1 hl), trivial⟩ rfl rfl
      rw [hnext, hd]
      have hp : prev i = none := by simp [prev, h4]
      rw [hp]
      simp only [checkSet]
      rw [if_neg (by omega)]
      simp
  · have h1 : l.length ≤ i := by simpa using h1
    refine m_ret' (hT := Tk) (r := ii _) rfl rfl rfl trivial rfl rfl ?_
    rw [List.drop_eq_nil_of_le h1]
    rfl
end Go.AI


namespace Go.AI
open Go.Proofs
set_option maxRecDepth 20000
/-- The first index with the property, or -1. -/
def findIx {α : Type} (p : α → Bool) : List α → Nat → Int
  | [], _ => -1
  | x :: r, i => if p x then (i : Int) else findIx p r (i + 1)
theorem indexFunc86 (O : List Heap) (l : List Int) (f d nm : Nat) (p : Int → Bool) (hl : l.length ≤ max63) (hp : ∀ x ∈ l, ASpec Tryz.prog f [ii x, .own (d + 1) nm 0 0] ([] :: O) (bb (p x)) [] ([] :: O)) :
    ASpec Tryz.prog 115 [ints l, .fn (.func f) [] [.own d nm 0 0]] O (ii (findIx p l 0)) [] O := by
  refine aspec_intro Tk Tryz.func115 rfl Tryz.call115 Tryz.ntmps115 (Nat.le_of_ble_eq_true rfl) fun E => ?_
  refine rch_run Tk Tryz.func115 ?_
  refine rch_loop_ind (fun i : Nat => [(0, ints l), (1, .fn (.func f) [] [.own (d + 1) nm 0 0]), (6, ints l), (7, ii l.length), (8, ii i)]) (fun _ => [] :: O) 19 (fun i => i ≤ l.length ∧ findIx p l 0 = findIx p (l.drop i) i) (fun i => l.length - i) 0 ⟨Nat.zero_le _, rfl⟩ ⟨rfl, rfl, rfl, rfl, rfl, trivial⟩ rfl rfl ?_
  intro i ⟨hi, hno⟩ ih
  rw [hno]
  rw [hno] at ih
  refine rch_run Tk Tryz.func115 ?_
  refine m_cnd Tk Tryz.func115 rfl (fun h1 => ?_) (fun h1 => ?_)
  · have h1 : i < l.length := by simpa using h1
    have hd : l.drop i = l[i] :: l.drop (i + 1) := (List.drop_eq_getElem_cons h1)
    refine m_need Tk Tryz.func115 (by omega) ?_
    refine m_elem Tk Tryz.func115 (get_mapZ h1) ?_
    refine m_call Tk Tryz.func115 (hp l[i] (List.getElem_mem h1)) rfl rfl rfl rfl rfl ?_
    refine m_cnd Tk Tryz.func115 rfl (fun h2 => ?_) (fun h2 => ?_)
    · refine m_ret' (hT := Tk) (r := ii _) rfl rfl rfl trivial rfl rfl ?_
      rw [hd]
      simp only [findIx]
      rw [if_pos h2]
    · refine ih (i + 1) _ ⟨h1, ?_⟩ (by omega) ⟨rfl, rfl, rfl, rfl, congrArg ii (wsucc h1 hl), trivial⟩ rfl rfl
      rw [hd]
      simp only [findIx]
      rw [if_neg (by rw [h2]; simp)]
  · have h1 : l.length ≤ i := by simpa using h1
    refine m_ret' (hT := Tk) (r := ii _) rfl rfl rfl trivial rfl rfl ?_
    rw [List.drop_eq_nil_of_le h1]
    rfl
theorem findIx_any {α : Type} (p : α → Bool) : ∀ (l : List α) (i : Nat), decide (findIx p l i ≥ 0) = l.any p
  | [], i => by simp [findIx]
  | x :: r, i => by
    by_cases h : p x = true
    · have e : findIx p (x :: r) i = (i : Int) := if_pos h
      rw [List.any_cons, h, Bool.true_or, decide_eq_true_iff, e]
      omega
    · have e : findIx p (x :: r) i = findIx p r (i + 1) := if_neg h
      have h' : p x = false := by simpa using h
      rw [List.any_cons, h', Bool.false_or, ← findIx_any p r (i + 1)]
      exact decide_eq_decide.2 (by rw [e])
theorem containsFunc68 (O : List Heap) (l : List Int) (f d nm : Nat) (p : Int → Bool) (hl : l.length ≤ max63) (hp : ∀ x ∈ l, ASpec Tryz.prog f [ii x, .own (d + 2) nm 0 0] ([] :: [] :: O) (bb (p x)) [] ([] :: [] :: O)) :
    ASpec Tryz.prog 93 [ints l, .fn (.func f) [] [.own d nm 0 0]] O (bb (l.any p)) [] O := by
  refine aspec_intro Tk Tryz.func93 rfl Tryz.call93 Tryz.ntmps93 (Nat.le_of_ble_eq_true rfl) fun E => ?_
  refine rch_run Tk Tryz.func93 ?_
  refine m_call Tk Tryz.func93 (indexFunc86 _ l f (d + 1) nm p hl hp) rfl rfl rfl rfl rfl ?_
  refine m_ret' (hT := Tk) (r := bb _) rfl rfl rfl trivial rfl rfl ?_
  exact congrArg bb (findIx_any p l 0)
theorem kindc94 (O : List Heap) (x k : Int) (d nm : Nat) (ho : objAt O d nm = some (.box [ii k])) : ASpec Tryz.prog 120 [ii x, .own d nm 0 0] O (bb (decide (x ≠ k))) [] O := by
  refine aspec_intro Tk Tryz.func120 rfl Tryz.call120 Tryz.ntmps120 (Nat.le_of_ble_eq_true rfl) fun E => ?_
  refine rch_run Tk Tryz.func120 ?_
  refine m_obj Tk Tryz.func120 (ob := .box [ii k]) ho ?_
  refine m_ret' (hT := Tk) (r := bb _) rfl rfl rfl trivial rfl rfl ?_
  by_cases h : x = k <;> simp [h]
theorem kindb93 (O : List Heap) (k : Int) (l : List Int) (d nm : Nat) (hl : l.length ≤ max63) (ho : objAt O d nm = some (.box [ints l])) : ASpec Tryz.prog 119 [ii k, .own d nm 0 0] O (bb (l.all (· = k))) [] O := by
  refine aspec_intro Tk Tryz.func119 rfl Tryz.call119 Tryz.ntmps119 (Nat.le_of_ble_eq_true rfl) fun E => ?_
  refine rch_run Tk Tryz.func119 ?_
  refine m_obj Tk Tryz.func119 (ob := .box [ints l]) ho ?_
  refine m_call Tk Tryz.func119 (containsFunc68 _ l 120 0 2 (fun x => decide (x ≠ k)) hl fun x _ => kindc94 _ x k _ _ rfl) rfl rfl rfl rfl rfl ?_
  refine m_ret' (hT := Tk) (r := bb _) rfl rfl rfl trivial rfl rfl ?_
  refine congrArg bb ?_
  clear hl ho
  induction l with
  | nil => rfl
  | cons y r ih =>
    rw [List.all_cons, ← ih, List.any_cons]
    by_cases h : y = k <;> simp [h]
end Go.AI


namespace Go.AI
open Go.Proofs
set_option maxRecDepth 20000
abbrev strI (b : ByteArray) : I := .v (.string b)
/-- A byte of a name. -/
def chr (b : ByteArray) (i : Nat) : Int := ((b.data.toList.getD i 0).toNat : Int)
def letterB (c : Int) : Bool := (decide (97 ≤ c) && decide (c ≤ 122)) || (decide (65 ≤ c) && decide (c ≤ 90)) || decide (c = 95)
def charB (i : Nat) (c : Int) : Bool := letterB c || (decide (i ≠ 0) && decide (48 ≤ c) && decide (c ≤ 57))
def isNameB (b : ByteArray) : Bool := (List.range b.size).all (fun i => charB i (chr b i)) && decide (0 < b.size) && decide (b.size ≤ 32)
theorem join_use {c : Cx} {todo : List Item} {s6 : St} {G : Prop} (h1 : Rch c todo s6 → G) (h2 : Rch c todo s6) : G := h1 h2
theorem isName73 (O : List Heap) (b : ByteArray) (hl : b.size ≤ max63) : ASpec Tryz.prog 88 [.i (strI b)] O (bb (isNameB b)) [] O := by
  refine aspec_stop [6] Tk Tryz.func88 rfl Tryz.call88 Tryz.ntmps88 (Nat.le_of_ble_eq_true rfl) fun E => ?_
  refine rch_run Tk Tryz.func88 ?_
  refine rch_loop_ind (fun i : Nat => [(0, .i (strI b)), (7, ii b.size), (8, ii i)]) (fun _ => [] :: O) 55 (fun i => i ≤ b.size ∧ ∀ j, j < i → charB j (chr b j) = true) (fun i => b.size - i) 0 ⟨Nat.zero_le _, fun j h => by omega⟩ ⟨rfl, rfl, rfl, trivial⟩ rfl rfl ?_
  intro i ⟨hi, hno⟩ ih
  refine rch_run Tk Tryz.func88 ?_
  refine m_cnd Tk Tryz.func88 rfl (fun h1 => ?_) (fun h1 => ?_)
  · have h1 : i < b.size := by simpa using h1
    refine m_need Tk Tryz.func88 (by omega) ?_
    apply join_use (s6 := { σ := [(0, .i (strI b)), (3, ii i), (4, .i (.v (.int .u8 (chr b i)))), (5, bb (letterB (chr b i))), (7, ii b.size), (8, ii i)], S := [] :: O, n := 55 })
    · intro H
      have fin : ∀ {s : St} {t : Bool}, s.get 5 = bb t → t = letterB (chr b i) → s.get 5 = bb (letterB (chr b i)) := fun h e => h.trans (congrArg bb e)
      have lt : (97 ≤ chr b i ∧ chr b i ≤ 122) ∨ (65 ≤ chr b i ∧ chr b i ≤ 90) → true = letterB (chr b i) := by
        intro h
        generalize chr b i = c at h
        unfold letterB
        rcases h with ⟨h1, h2⟩ | ⟨h1, h2⟩ <;> simp [h1, h2]
      have lu : ¬ ((97 ≤ chr b i ∧ chr b i ≤ 122) ∨ (65 ≤ chr b i ∧ chr b i ≤ 90)) → (chr b i == 95) = letterB (chr b i) := by
        intro h
        generalize chr b i = c at h ⊢
        unfold letterB
        have h1 : (decide (97 ≤ c) && decide (c ≤ 122)) = false := by
          rw [← Bool.decide_and]; exact decide_eq_false fun h' => h (.inl h')
        have h2 : (decide (65 ≤ c) && decide (c ≤ 90)) = false := by
          rw [← Bool.decide_and]; exact decide_eq_false fun h' => h (.inr h')
        rw [h1, h2]
        rfl
      refine m_know Tk Tryz.func88 rfl (fun h2 => ?_) (fun h2 => ?_)
      · have h2 : chr b i ≥ 97 := of_decide_eq_true h2
        refine m_know Tk Tryz.func88 rfl (fun h3 => ?_) (fun h3 => ?_)
        · have h3 : chr b i ≤ 122 := of_decide_eq_true h3
          refine m_know Tk Tryz.func88 rfl (fun _ => ?_) (fun h => by cases h)
          refine rch_cut H ⟨rfl, rfl, rfl, fin rfl ?_, rfl, rfl, trivial⟩
          exact lt (by omega)
        · have h3 : ¬ chr b i ≤ 122 := of_decide_eq_false h3
          refine m_know Tk Tryz.func88 rfl (fun h4 => ?_) (fun h4 => ?_)
          · have h4 : chr b i ≥ 65 := of_decide_eq_true h4
            refine m_know Tk Tryz.func88 rfl (fun h5 => ?_) (fun h5 => ?_)
            · have h5 : chr b i ≤ 90 := of_decide_eq_true h5
              refine rch_cut H ⟨rfl, rfl, rfl, fin rfl ?_, rfl, rfl, trivial⟩
              exact lt (by omega)
            · have h5 : ¬ chr b i ≤ 90 := of_decide_eq_false h5
              refine rch_cut H ⟨rfl, rfl, rfl, fin rfl ?_, rfl, rfl, trivial⟩
              exact lu (by omega)
          · have h4 : ¬ chr b i ≥ 65 := of_decide_eq_false h4
            refine m_know Tk Tryz.func88 rfl (fun h => by cases h) (fun _ => ?_)
            refine rch_cut H ⟨rfl, rfl, rfl, fin rfl ?_, rfl, rfl, trivial⟩
            exact lu (by omega)
      · have h2 : ¬ chr b i ≥ 97 := of_decide_eq_false h2
        refine m_know Tk Tryz.func88 rfl (fun h => by cases h) (fun _ => ?_)
        refine m_know Tk Tryz.func88 rfl (fun h4 => ?_) (fun h4 => ?_)
        · have h4 : chr b i ≥ 65 := of_decide_eq_true h4
          refine m_know Tk Tryz.func88 rfl (fun h5 => ?_) (fun h5 => ?_)
          · have h5 : chr b i ≤ 90 := of_decide_eq_true h5
            refine rch_cut H ⟨rfl, rfl, rfl, fin rfl ?_, rfl, rfl, trivial⟩
            exact lt (by omega)
          · have h5 : ¬ chr b i ≤ 90 := of_decide_eq_false h5
            refine rch_cut H ⟨rfl, rfl, rfl, fin rfl ?_, rfl, rfl, trivial⟩
            exact lu (by omega)
        · have h4 : ¬ chr b i ≥ 65 := of_decide_eq_false h4
          refine m_know Tk Tryz.func88 rfl (fun h => by cases h) (fun _ => ?_)
          refine rch_cut H ⟨rfl, rfl, rfl, fin rfl ?_, rfl, rfl, trivial⟩
          exact lu (by omega)
    · refine rch_run Tk Tryz.func88 ?_
      refine m_go Tk Tryz.func88 ?_
      have hbad : charB i (chr b i) = false → isNameB b = false := by
        intro h
        unfold isNameB
        have : (List.range b.size).all (fun i => charB i (chr b i)) = false := by
          rw [List.all_eq_false]
          exact ⟨i, List.mem_range.2 h1, by rw [h]; simp⟩
        rw [this]; rfl
      have hgood : charB i (chr b i) = true → ∀ j, j < i + 1 → charB j (chr b j) = true := by
        intro h j hj
        by_cases e : j = i
        · subst e; exact h
        · exact hno j (by omega)
      refine m_know Tk Tryz.func88 rfl (fun h2 => ?_) (fun h2 => ?_)
      · have h2 : letterB (chr b i) = false := by simpa using h2
        refine m_know Tk Tryz.func88 rfl (fun h3 => ?_) (fun h3 => ?_)
        · have h3 : i = 0 := by simpa using h3
          refine m_know Tk Tryz.func88 rfl (fun _ => ?_) (fun h => by cases h)
          refine m_cnd Tk Tryz.func88 rfl (fun _ => ?_) (fun h => by cases h)
          refine m_ret' (hT := Tk) (r := bb _) rfl rfl rfl trivial rfl rfl ?_
          rw [hbad (by unfold charB; rw [h2, h3]; rfl)]
        · have h3 : i ≠ 0 := by simpa using h3
          refine m_know Tk Tryz.func88 rfl (fun h4 => ?_) (fun h4 => ?_)
          · have h4 : chr b i < 48 := of_decide_eq_true h4
            refine m_cnd Tk Tryz.func88 rfl (fun _ => ?_) (fun h => by cases h)
            refine m_ret' (hT := Tk) (r := bb _) rfl rfl rfl trivial rfl rfl ?_
            rw [hbad (by unfold charB; rw [h2]; simp; omega)]
          · have h4 : ¬ chr b i < 48 := of_decide_eq_false h4
            refine m_cnd Tk Tryz.func88 rfl (fun h5 => ?_) (fun h5 => ?_)
            · have h5 : chr b i > 57 := of_decide_eq_true h5
              refine m_ret' (hT := Tk) (r := bb _) rfl rfl rfl trivial rfl rfl ?_
              rw [hbad (by unfold charB; rw [h2]; simp; omega)]
            · have h5 : ¬ chr b i > 57 := of_decide_eq_false h5
              refine ih (i + 1) _ ⟨h1, hgood ?_⟩ (by omega) ⟨rfl, rfl, congrArg ii (wsucc h1 hl), trivial⟩ rfl rfl
              unfold charB
              rw [h2]
              simp [h3]
              omega
      · have h2 : letterB (chr b i) = true := by simpa using h2
        refine m_cnd Tk Tryz.func88 rfl (fun h => by cases h) (fun _ => ?_)
        refine ih (i + 1) _ ⟨h1, hgood ?_⟩ (by omega) ⟨rfl, rfl, congrArg ii (wsucc h1 hl), trivial⟩ rfl rfl
        unfold charB
        rw [h2]
        rfl
  · have h1 : b.size ≤ i := by simpa using h1
    have hall : (List.range b.size).all (fun i => charB i (chr b i)) = true := by
      rw [List.all_eq_true]
      intro j hj
      rw [List.mem_range] at hj
      exact hno j (by omega)
    refine m_know Tk Tryz.func88 rfl (fun h2 => ?_) (fun h2 => ?_)
    · have h2 : 0 < b.size := by simpa using h2
      refine m_ret' (hT := Tk) (r := bb _) rfl rfl rfl trivial rfl rfl ?_
      refine congrArg bb ?_
      unfold isNameB
      rw [hall, decide_eq_true h2]
      exact decide_eq_decide.2 (by omega)
    · have h2 : ¬ 0 < b.size := by simpa using h2
      refine m_ret' (hT := Tk) (r := bb _) rfl rfl rfl trivial rfl rfl ?_
      refine congrArg bb ?_
      unfold isNameB
      rw [decide_eq_false h2]
      simp
end Go.AI


namespace Go.AI
open Go.Proofs
set_option maxRecDepth 20000
/-- A variable of a model. -/
structure Vr where
  name : ByteArray
  low : Int
  high : Int
  init : Int
abbrev vrI (v : Vr) : List I := [strI v.name, vi v.low, vi v.high, vi v.init]
abbrev vrD (v : Vr) : D := .agg [.i (strI v.name), ii v.low, ii v.high, ii v.init]
abbrev vrsI (l : List Vr) : I := .sl 4 l.length (l.map vrI)
abbrev vrs (l : List Vr) : D := .i (vrsI l)
abbrev intssI (l : List (List Int)) : I := .sl 1 l.length (l.map fun x => [intsI x])
theorem indexFunc88 (O : List Heap) (l : List Vr) (f d nm : Nat) (p : Vr → Bool) (hl : l.length ≤ max63) (hp : ∀ x ∈ l, ASpec Tryz.prog f [vrD x, .own (d + 1) nm 0 0] ([] :: O) (bb (p x)) [] ([] :: O)) :
    ASpec Tryz.prog 114 [vrs l, .fn (.func f) [] [.own d nm 0 0]] O (ii (findIx p l 0)) [] O := by
  refine aspec_intro Tk Tryz.func114 rfl Tryz.call114 Tryz.ntmps114 (Nat.le_of_ble_eq_true rfl) fun E => ?_
  refine rch_run Tk Tryz.func114 ?_
  refine rch_loop_ind (fun i : Nat => [(0, vrs l), (1, .fn (.func f) [] [.own (d + 1) nm 0 0]), (6, vrs l), (7, ii l.length), (8, ii i)]) (fun _ => [] :: O) 19 (fun i => i ≤ l.length ∧ findIx p l 0 = findIx p (l.drop i) i) (fun i => l.length - i) 0 ⟨Nat.zero_le _, rfl⟩ ⟨rfl, rfl, rfl, rfl, rfl, trivial⟩ rfl rfl ?_
  intro i ⟨hi, hno⟩ ih
  rw [hno]
  rw [hno] at ih
  refine rch_run Tk Tryz.func114 ?_
  refine m_cnd Tk Tryz.func114 rfl (fun h1 => ?_) (fun h1 => ?_)
  · have h1 : i < l.length := by simpa using h1
    have hd : l.drop i = l[i] :: l.drop (i + 1) := (List.drop_eq_getElem_cons h1)
    refine m_need Tk Tryz.func114 (by omega) ?_
    refine m_elem Tk Tryz.func114 (get_mapZ h1) ?_
    refine m_call Tk Tryz.func114 (hp l[i] (List.getElem_mem h1)) rfl rfl rfl rfl rfl ?_
    refine m_cnd Tk Tryz.func114 rfl (fun h2 => ?_) (fun h2 => ?_)
    · refine m_ret' (hT := Tk) (r := ii _) rfl rfl rfl trivial rfl rfl ?_
      rw [hd]
      simp only [findIx]
      rw [if_pos h2]
    · refine ih (i + 1) _ ⟨h1, ?_⟩ (by omega) ⟨rfl, rfl, rfl, rfl, congrArg ii (wsucc h1 hl), trivial⟩ rfl rfl
      rw [hd]
      simp only [findIx]
      rw [if_neg (by rw [h2]; simp)]
  · have h1 : l.length ≤ i := by simpa using h1
    refine m_ret' (hT := Tk) (r := ii _) rfl rfl rfl trivial rfl rfl ?_
    rw [List.drop_eq_nil_of_le h1]
    rfl
theorem containsFunc74 (O : List Heap) (l : List Vr) (f d nm : Nat) (p : Vr → Bool) (hl : l.length ≤ max63) (hp : ∀ x ∈ l, ASpec Tryz.prog f [vrD x, .own (d + 2) nm 0 0] ([] :: [] :: O) (bb (p x)) [] ([] :: [] :: O)) :
    ASpec Tryz.prog 89 [vrs l, .fn (.func f) [] [.own d nm 0 0]] O (bb (l.any p)) [] O := by
  refine aspec_intro Tk Tryz.func89 rfl Tryz.call89 Tryz.ntmps89 (Nat.le_of_ble_eq_true rfl) fun E => ?_
  refine rch_run Tk Tryz.func89 ?_
  refine m_call Tk Tryz.func89 (indexFunc88 _ l f (d + 1) nm p hl hp) rfl rfl rfl rfl rfl ?_
  refine m_ret' (hT := Tk) (r := bb _) rfl rfl rfl trivial rfl rfl ?_
  exact congrArg bb (findIx_any p l 0)


theorem sameName75 (O : List Heap) (x v : Vr) (d nm : Nat) (ho : objAt O d nm = some (.box [.i (strI v.name), ii v.low, ii v.high, ii v.init])) : ASpec Tryz.prog 90 [vrD x, .own d nm 0 0] O (bb (x.name.toList == v.name.toList)) [] O := by
  refine aspec_intro Tk Tryz.func90 rfl Tryz.call90 Tryz.ntmps90 (Nat.le_of_ble_eq_true rfl) fun E => ?_
  refine rch_run Tk Tryz.func90 ?_
  refine m_obj Tk Tryz.func90 (ob := .box [.i (strI v.name), ii v.low, ii v.high, ii v.init]) ho ?_
  refine m_ret' (hT := Tk) (r := bb _) rfl rfl rfl trivial rfl rfl ?_
  rfl
/-- CheckVariables. -/
def checkVr (ds : List Vr) (v : Vr) : Option Int :=
  if isNameB v.name = false then some 7
  else if ds.any (fun x => x.name.toList == v.name.toList) then some 8
  else if large v.low || large v.high then some 2
  else if v.low > v.high then some 5
  else if v.init < v.low ∨ v.init > v.high then some 2
  else none
where large (a : Int) : Bool := decide (65536 < a) || decide (a < -65536)
def checkVrs (all : List Vr) : List Vr → Nat → Int
  | [], _ => 0
  | v :: r, i => match checkVr (all.take i) v with
    | some e => e
    | none => checkVrs all r (i + 1)
theorem large70 (O : List Heap) (a b : Int) : ASpec Tryz.prog 91 [ii a, ii b] O (bb (decide (b < a) || decide (a < IntKind.i64.wrap (0 - b)))) [] O := by
  refine aspec_intro Tk Tryz.func91 rfl Tryz.call91 Tryz.ntmps91 (Nat.le_of_ble_eq_true rfl) fun E => ?_
  refine rch_run Tk Tryz.func91 ?_
  refine m_know Tk Tryz.func91 rfl (fun h1 => ?_) (fun h1 => ?_)
  · have h1 : b < a := of_decide_eq_true h1
    refine m_ret' (hT := Tk) (r := bb _) rfl rfl rfl trivial rfl rfl ?_
    simp [h1]
  · have h1 : ¬ b < a := of_decide_eq_false h1
    refine m_ret' (hT := Tk) (r := bb _) rfl rfl rfl trivial rfl rfl ?_
    simp only [decide_eq_false h1, Bool.false_or]
end Go.AI


namespace Go.AI
open Go.Proofs
set_option maxRecDepth 20000
theorem vrs_take {l : List Vr} {i : Nat} (h : i ≤ l.length) : vrs (l.take i) = .i (.sl 4 (i : Int).toNat ((l.map vrI).take (i : Int).toNat)) := by
  simp [vrs, vrsI, List.map_take, Nat.min_eq_left h]
theorem checkVars56 (O : List Heap) (l : List Vr) (hl : l.length ≤ max63) (hn : ∀ v ∈ l, v.name.size ≤ max63) : ASpec Tryz.prog 57 [vrs l] O (ii (if l.length > 16 then 3 else checkVrs l l 0)) [] O := by
  refine aspec_intro Tk Tryz.func57 rfl Tryz.call57 Tryz.ntmps57 (Nat.le_of_ble_eq_true rfl) fun E => ?_
  refine rch_run Tk Tryz.func57 ?_
  refine m_cnd Tk Tryz.func57 rfl (fun h1 => ?_) (fun h1 => ?_)
  · have h1 : (16 : Int) < l.length := by simpa using h1
    have h1 : l.length > 16 := by omega
    refine m_ret' (hT := Tk) (r := ii _) rfl rfl rfl trivial rfl rfl ?_
    rw [if_pos h1]
  have h1 : (l.length : Int) ≤ 16 := by simpa using h1
  have h1 : ¬ l.length > 16 := by omega
  rw [if_neg h1]
  refine rch_loop2 (fun i : Nat => [(0, vrs l), (8, vrs l), (9, ii l.length), (10, ii i)]) (fun _ => []) (fun _ => O) 55 (fun i => i ≤ l.length ∧ checkVrs l l 0 = checkVrs l (l.drop i) i) (fun i => l.length - i) 0 ⟨Nat.zero_le _, rfl⟩ ⟨rfl, rfl, rfl, rfl, trivial⟩ rfl trivial rfl rfl ?_
  intro i ⟨hi, hno⟩ ih
  rw [hno]
  rw [hno] at ih
  refine rch_run Tk Tryz.func57 ?_
  refine m_cnd Tk Tryz.func57 rfl (fun h2 => ?_) (fun h2 => ?_)
  · have h2 : i < l.length := by simpa using h2
    have hd : l.drop i = l[i] :: l.drop (i + 1) := (List.drop_eq_getElem_cons h2)
    have hm := List.getElem_mem h2
    generalize hv : l[i] = v at hd hm
    refine m_need Tk Tryz.func57 (by omega) ?_
    refine m_elem Tk Tryz.func57 (d := vrI v) (by rw [← hv]; exact get_mapZ (f := vrI) h2) ?_
    refine m_call Tk Tryz.func57 (isName73 _ v.name (hn v hm)) rfl rfl rfl rfl rfl ?_
    refine m_cnd Tk Tryz.func57 rfl (fun h3 => ?_) (fun h3 => ?_)
    · have h3 : isNameB v.name = false := by simpa using h3
      refine m_ret' (hT := Tk) (r := ii _) rfl rfl rfl trivial rfl rfl ?_
      rw [hd]
      simp only [checkVrs, checkVr]
      rw [if_pos h3]
    have h3 : ¬ isNameB v.name = false := by simpa using h3
    refine m_need Tk Tryz.func57 (by omega) ?_
    have hs := containsFunc74 ([(4, .box [.i (strI v.name), ii v.low, ii v.high, ii v.init]), (4, .box [.i (strI ⟨#[]⟩), ii 0, ii 0, ii 0])] :: O) (l.take i) 90 0 4 (fun x => x.name.toList == v.name.toList) (by rw [List.length_take]; omega) fun x _ => sameName75 _ x v 2 4 rfl
    rw [vrs_take hi] at hs
    refine m_call Tk Tryz.func57 hs rfl rfl rfl rfl rfl ?_
    refine m_cnd Tk Tryz.func57 rfl (fun h4 => ?_) (fun h4 => ?_)
    · refine m_ret' (hT := Tk) (r := ii _) rfl rfl rfl trivial rfl rfl ?_
      rw [hd]
      simp only [checkVrs, checkVr]
      rw [if_neg h3, if_pos h4]
    have h4 : ¬ ((l.take i).any fun x => x.name.toList == v.name.toList) = true := by rw [h4]; simp
    refine m_call Tk Tryz.func57 (large70 _ v.low 65536) rfl rfl rfl rfl rfl ?_
    have fin2 : (checkVr.large v.low || checkVr.large v.high) = true → checkVrs l (l.drop i) i = 2 := by
      intro h
      rw [hd]
      simp only [checkVrs, checkVr]
      rw [if_neg h3, if_neg h4, if_pos h]
    have rest : (checkVr.large v.low || checkVr.large v.high) = false → checkVrs l (l.drop i) i = if v.low > v.high then 5 else if v.init < v.low ∨ v.init > v.high then 2 else checkVrs l (l.drop (i + 1)) (i + 1) := by
      intro h
      rw [hd]
      simp only [checkVrs, checkVr]
      rw [if_neg h3, if_neg h4, if_neg (by rw [h]; simp)]
      by_cases a1 : v.low > v.high
      · simp only [if_pos a1]
      · simp only [if_neg a1]
        by_cases a2 : v.init < v.low ∨ v.init > v.high
        · simp only [if_pos a2]
        · simp only [if_neg a2]
    refine m_know Tk Tryz.func57 rfl (fun h5 => ?_) (fun h5 => ?_)
    · have h5 : checkVr.large v.low = true := h5
      refine m_cnd Tk Tryz.func57 rfl (fun _ => ?_) (fun h => by cases h)
      refine m_ret' (hT := Tk) (r := ii _) rfl rfl rfl trivial rfl rfl ?_
      rw [fin2 (by rw [h5]; rfl)]
    have h5 : checkVr.large v.low = false := h5
    refine m_call Tk Tryz.func57 (large70 _ v.high 65536) rfl rfl rfl rfl rfl ?_
    refine m_cnd Tk Tryz.func57 rfl (fun h6 => ?_) (fun h6 => ?_)
    · have h6 : checkVr.large v.high = true := h6
      refine m_ret' (hT := Tk) (r := ii _) rfl rfl rfl trivial rfl rfl ?_
      rw [fin2 (by rw [h6, h5]; rfl)]
    have h6 : checkVr.large v.high = false := h6
    have rest := rest (by rw [h5, h6]; rfl)
    refine m_cnd Tk Tryz.func57 rfl (fun h7 => ?_) (fun h7 => ?_)
    · have h7 : v.low > v.high := of_decide_eq_true h7
      refine m_ret' (hT := Tk) (r := ii _) rfl rfl rfl trivial rfl rfl ?_
      rw [rest, if_pos h7]
    have h7 : ¬ v.low > v.high := of_decide_eq_false h7
    rw [if_neg h7] at rest
    refine m_know Tk Tryz.func57 rfl (fun h8 => ?_) (fun h8 => ?_)
    · have h8 : v.init < v.low := of_decide_eq_true h8
      refine m_cnd Tk Tryz.func57 rfl (fun _ => ?_) (fun h => by cases h)
      refine m_ret' (hT := Tk) (r := ii _) rfl rfl rfl trivial rfl rfl ?_
      rw [rest, if_pos (.inl h8)]
    have h8 : ¬ v.init < v.low := of_decide_eq_false h8
    refine m_cnd Tk Tryz.func57 rfl (fun h9 => ?_) (fun h9 => ?_)
    · have h9 : v.init > v.high := of_decide_eq_true h9
      refine m_ret' (hT := Tk) (r := ii _) rfl rfl rfl trivial rfl rfl ?_
      rw [rest, if_pos (.inr h9)]
    have h9 : ¬ v.init > v.high := of_decide_eq_false h9
    rw [if_neg (by omega)] at rest
    refine ih (i + 1) _ _ ⟨h2, rest⟩ (by omega) ⟨rfl, rfl, rfl, congrArg ii (wsucc h2 hl), trivial⟩ rfl trivial rfl rfl
  · have h2 : l.length ≤ i := by simpa using h2
    refine m_ret' (hT := Tk) (r := ii _) rfl rfl rfl trivial rfl rfl ?_
    rw [List.drop_eq_nil_of_le h2]
    rfl
end Go.AI


namespace Go.AI
open Go.Proofs
set_option maxRecDepth 20000
/-- An expression. -/
inductive Ex where
  | mk (op val idx : Int) (args : List Ex)
mutual
def exI : Ex → List I
  | .mk op v i args => [vi op, vi v, vi i, .sl 4 args.length (exIs args)]
def exIs : List Ex → List (List I)
  | [] => []
  | e :: r => exI e :: exIs r
end
theorem exIs_map : ∀ l : List Ex, exIs l = l.map exI
  | [] => by simp [exIs]
  | e :: r => by simp [exIs, exIs_map r]
def exD : Ex → D
  | .mk op v i args => .agg [ii op, ii v, ii i, .i (.sl 4 args.length (exIs args))]
def zeroE : Ex := .mk 0 0 0 []
def trueE : Ex := .mk 6 0 0 [zeroE, zeroE]
theorem true42 (O : List Heap) : ASpec Tryz.prog 34 [] O (exD (.mk 6 0 0 [zeroE, zeroE])) [] O := by
  refine aspec_intro Tk Tryz.func34 rfl Tryz.call34 Tryz.ntmps34 (Nat.le_of_ble_eq_true rfl) fun E => ?_
  refine rch_run Tk Tryz.func34 ?_
  refine m_ret_co (hT := Tk) (r := .agg [ii 6, ii 0, ii 0, .i (.sl 4 2 [[vi 0, vi 0, vi 0, .v (.slice none 0 0)], [vi 0, vi 0, vi 0, .v (.slice none 0 0)]])]) rfl rfl rfl trivial rfl rfl ?_
  show CoD _ (.agg [ii 6, ii 0, ii 0, .i (.sl 4 2 (exIs [zeroE, zeroE]))])
  have hz : CoL [vi 0, vi 0, vi 0, .v (.slice none 0 0)] (exI zeroE) := by
    simp only [zeroE, exI]
    exact .cons (.refl _) (.cons (.refl _) (.cons (.refl _) (.cons coI_nil .nil)))
  refine coD_agg (.cons (.refl _) (.cons (.refl _) (.cons (.refl _) (.cons (coD_i (coI_sl ?_)) .nil))))
  simp only [exIs]
  exact .cons hz (.cons hz .nil)
end Go.AI


namespace Go.AI
open Go.Proofs
set_option maxRecDepth 20000
abbrev exs (l : List Ex) : D := .i (.sl 4 l.length (exIs l))
theorem exIs_get {l : List Ex} {i : Nat} (h : i < l.length) : (exIs l)[(i : Int).toNat]? = some (exI l[i]) := by
  rw [exIs_map]
  exact get_mapZ (f := exI) h
end Go.AI


namespace Go.AI
open Go.Proofs
set_option maxRecDepth 20000
mutual
def exOk : Ex → Prop
  | .mk _ _ _ a => a.length ≤ max63 ∧ exOks a
def exOks : List Ex → Prop
  | [] => True
  | x :: xs => exOk x ∧ exOks xs
end
theorem exOks_mem : ∀ {l : List Ex}, exOks l → ∀ x ∈ l, exOk x
  | [], _, x, h => by simp at h
  | y :: r, h, x, hx => by
    simp only [exOks] at h
    rcases List.mem_cons.1 hx with rfl | hx
    · exact h.1
    · exact exOks_mem h.2 x hx
end Go.AI


namespace Go.AI
open Go.Proofs
set_option maxRecDepth 20000
/-- How many arguments an operator takes. -/
def arity (x : Int) : Int × Bool :=
  if x = 0 then (0, true) else
  if x = 1 then (0, true) else
  if x = 5 then (1, true) else
  if x = 10 then (1, true) else
  if x = 2 then (2, true) else
  if x = 3 then (2, true) else
  if x = 4 then (2, true) else
  if x = 6 then (2, true) else
  if x = 7 then (2, true) else
  if x = 8 then (2, true) else
  if x = 9 then (2, true) else
  if x = 11 then (2, true) else
  if x = 12 then (2, true) else
  if x = 13 then (3, true) else
  (0, false)
theorem arguments92 (O : List Heap) (x : Int) : ASpec Tryz.prog 118 [ii x] O (.tup [ii (arity x).1, bb (arity x).2]) [] O := by
  refine aspec_intro Tk Tryz.func118 rfl Tryz.call118 Tryz.ntmps118 (Nat.le_of_ble_eq_true rfl) fun E => ?_
  refine rch_run Tk Tryz.func118 ?_
  refine m_cnd Tk Tryz.func118 rfl (fun h => ?_) (fun h0 => ?_)
  · have h : x = 0 := by simpa using h
    refine m_cnd Tk Tryz.func118 rfl (fun _ => ?_) (fun h' => by rw [h] at h'; cases h')
    refine m_ret' (hT := Tk) (r := .tup [ii 0, bb true]) rfl rfl rfl trivial rfl rfl ?_
    subst h
    rfl
  have h0 : x ≠ 0 := by simpa using h0
  refine m_cnd Tk Tryz.func118 rfl (fun h => ?_) (fun h1 => ?_)
  · have h : x = 1 := by simpa using h
    refine m_ret' (hT := Tk) (r := .tup [ii 0, bb true]) rfl rfl rfl trivial rfl rfl ?_
    subst h
    rfl
  have h1 : x ≠ 1 := by simpa using h1
  refine m_cnd Tk Tryz.func118 rfl (fun h => ?_) (fun h5 => ?_)
  · have h : x = 5 := by simpa using h
    refine m_cnd Tk Tryz.func118 rfl (fun _ => ?_) (fun h' => by rw [h] at h'; cases h')
    refine m_ret' (hT := Tk) (r := .tup [ii 1, bb true]) rfl rfl rfl trivial rfl rfl ?_
    subst h
    rfl
  have h5 : x ≠ 5 := by simpa using h5
  refine m_cnd Tk Tryz.func118 rfl (fun h => ?_) (fun h10 => ?_)
  · have h : x = 10 := by simpa using h
    refine m_ret' (hT := Tk) (r := .tup [ii 1, bb true]) rfl rfl rfl trivial rfl rfl ?_
    subst h
    rfl
  have h10 : x ≠ 10 := by simpa using h10
  refine m_cnd Tk Tryz.func118 rfl (fun h => ?_) (fun h2 => ?_)
  · have h : x = 2 := by simpa using h
    refine m_cnd Tk Tryz.func118 rfl (fun _ => ?_) (fun h' => by rw [h] at h'; cases h')
    refine m_ret' (hT := Tk) (r := .tup [ii 2, bb true]) rfl rfl rfl trivial rfl rfl ?_
    subst h
    rfl
  have h2 : x ≠ 2 := by simpa using h2
  refine m_cnd Tk Tryz.func118 rfl (fun h => ?_) (fun h3 => ?_)
  · have h : x = 3 := by simpa using h
    refine m_cnd Tk Tryz.func118 rfl (fun _ => ?_) (fun h' => by rw [h] at h'; cases h')
    refine m_ret' (hT := Tk) (r := .tup [ii 2, bb true]) rfl rfl rfl trivial rfl rfl ?_
    subst h
    rfl
  have h3 : x ≠ 3 := by simpa using h3
  refine m_cnd Tk Tryz.func118 rfl (fun h => ?_) (fun h4 => ?_)
  · have h : x = 4 := by simpa using h
    refine m_cnd Tk Tryz.func118 rfl (fun _ => ?_) (fun h' => by rw [h] at h'; cases h')
    refine m_ret' (hT := Tk) (r := .tup [ii 2, bb true]) rfl rfl rfl trivial rfl rfl ?_
    subst h
    rfl
  have h4 : x ≠ 4 := by simpa using h4
  refine m_cnd Tk Tryz.func118 rfl (fun h => ?_) (fun h6 => ?_)
  · have h : x = 6 := by simpa using h
    refine m_cnd Tk Tryz.func118 rfl (fun _ => ?_) (fun h' => by rw [h] at h'; cases h')
    refine m_ret' (hT := Tk) (r := .tup [ii 2, bb true]) rfl rfl rfl trivial rfl rfl ?_
    subst h
    rfl
  have h6 : x ≠ 6 := by simpa using h6
  refine m_cnd Tk Tryz.func118 rfl (fun h => ?_) (fun h7 => ?_)
  · have h : x = 7 := by simpa using h
    refine m_cnd Tk Tryz.func118 rfl (fun _ => ?_) (fun h' => by rw [h] at h'; cases h')
    refine m_ret' (hT := Tk) (r := .tup [ii 2, bb true]) rfl rfl rfl trivial rfl rfl ?_
    subst h
    rfl
  have h7 : x ≠ 7 := by simpa using h7
  refine m_cnd Tk Tryz.func118 rfl (fun h => ?_) (fun h8 => ?_)
  · have h : x = 8 := by simpa using h
    refine m_cnd Tk Tryz.func118 rfl (fun _ => ?_) (fun h' => by rw [h] at h'; cases h')
    refine m_ret' (hT := Tk) (r := .tup [ii 2, bb true]) rfl rfl rfl trivial rfl rfl ?_
    subst h
    rfl
  have h8 : x ≠ 8 := by simpa using h8
  refine m_cnd Tk Tryz.func118 rfl (fun h => ?_) (fun h9 => ?_)
  · have h : x = 9 := by simpa using h
    refine m_cnd Tk Tryz.func118 rfl (fun _ => ?_) (fun h' => by rw [h] at h'; cases h')
    refine m_ret' (hT := Tk) (r := .tup [ii 2, bb true]) rfl rfl rfl trivial rfl rfl ?_
    subst h
    rfl
  have h9 : x ≠ 9 := by simpa using h9
  refine m_cnd Tk Tryz.func118 rfl (fun h => ?_) (fun h11 => ?_)
  · have h : x = 11 := by simpa using h
    refine m_cnd Tk Tryz.func118 rfl (fun _ => ?_) (fun h' => by rw [h] at h'; cases h')
    refine m_ret' (hT := Tk) (r := .tup [ii 2, bb true]) rfl rfl rfl trivial rfl rfl ?_
    subst h
    rfl
  have h11 : x ≠ 11 := by simpa using h11
  refine m_cnd Tk Tryz.func118 rfl (fun h => ?_) (fun h12 => ?_)
  · have h : x = 12 := by simpa using h
    refine m_ret' (hT := Tk) (r := .tup [ii 2, bb true]) rfl rfl rfl trivial rfl rfl ?_
    subst h
    rfl
  have h12 : x ≠ 12 := by simpa using h12
  refine m_cnd Tk Tryz.func118 rfl (fun h => ?_) (fun h13 => ?_)
  · have h : x = 13 := by simpa using h
    refine m_ret' (hT := Tk) (r := .tup [ii 3, bb true]) rfl rfl rfl trivial rfl rfl ?_
    subst h
    rfl
  have h13 : x ≠ 13 := by simpa using h13
  refine m_ret' (hT := Tk) (r := .tup [ii 0, bb false]) rfl rfl rfl trivial rfl rfl ?_
  have e : arity x = (0, false) := by
    unfold arity
    rw [if_neg h0]
    rw [if_neg h1]
    rw [if_neg h5]
    rw [if_neg h10]
    rw [if_neg h2]
    rw [if_neg h3]
    rw [if_neg h4]
    rw [if_neg h6]
    rw [if_neg h7]
    rw [if_neg h8]
    rw [if_neg h9]
    rw [if_neg h11]
    rw [if_neg h12]
    rw [if_neg h13]
  rw [e]
end Go.AI


namespace Go.AI
open Go.Proofs
set_option maxRecDepth 20000
theorem truth95 (O : List Heap) (b : Bool) : ASpec Tryz.prog 135 [bb b] O (ii (if b then 1 else 0)) [] O := by
  refine aspec_intro Tk Tryz.func135 rfl Tryz.call135 Tryz.ntmps135 (Nat.le_of_ble_eq_true rfl) fun E => ?_
  refine rch_run Tk Tryz.func135 ?_
  refine m_cnd Tk Tryz.func135 rfl (fun h => ?_) (fun h => ?_)
  · refine m_ret' (hT := Tk) (r := ii 1) rfl rfl rfl trivial rfl rfl ?_
    rw [if_pos h]
  · refine m_ret' (hT := Tk) (r := ii 0) rfl rfl rfl trivial rfl rfl ?_
    rw [h]; rfl
def within (l : List Vr) (xs : List Int) : Bool := match l, xs with
  | [], [] => true
  | v :: r, x :: ys => decide (v.low ≤ x) && decide (x ≤ v.high) && within r ys
  | _, _ => false
theorem within_len : ∀ (l : List Vr) (xs : List Int), l.length ≠ xs.length → within l xs = false
  | [], [], h => absurd rfl h
  | [], _ :: _, _ => rfl
  | _ :: _, [], _ => rfl
  | v :: r, x :: ys, h => by
    simp only [within]
    rw [within_len r ys (by simpa using h), Bool.and_false]
theorem within52 (O : List Heap) (l : List Vr) (xs : List Int) (hl : l.length ≤ max63) : ASpec Tryz.prog 22 [vrs l, ints xs] O (bb (within l xs)) [] O := by
  refine aspec_intro Tk Tryz.func22 rfl Tryz.call22 Tryz.ntmps22 (Nat.le_of_ble_eq_true rfl) fun E => ?_
  refine rch_run Tk Tryz.func22 ?_
  refine m_cnd Tk Tryz.func22 rfl (fun h1 => ?_) (fun h1 => ?_)
  · refine m_ret' (hT := Tk) (r := bb _) rfl rfl rfl trivial rfl rfl ?_
    have h1 : (l.length : Int) ≠ xs.length := by simpa using h1
    rw [within_len l xs (fun e => h1 (by rw [e]))]
  have hlen : l.length = xs.length := by
    have : (l.length : Int) = xs.length := by simpa using h1
    omega
  refine rch_loop2 (fun i : Nat => [(0, vrs l), (1, ints xs), (12, vrs l), (13, ii l.length), (14, ii i)]) (fun _ => []) (fun _ => O) 36 (fun i => i ≤ l.length ∧ within l xs = within (l.drop i) (xs.drop i)) (fun i => l.length - i) 0 ⟨Nat.zero_le _, rfl⟩ ⟨rfl, rfl, rfl, rfl, rfl, trivial⟩ rfl trivial rfl rfl ?_
  intro i ⟨hi, hno⟩ ih
  rw [hno]
  rw [hno] at ih
  refine rch_run Tk Tryz.func22 ?_
  refine m_cnd Tk Tryz.func22 rfl (fun h1 => ?_) (fun h1 => ?_)
  · have h1 : i < l.length := by simpa using h1
    have h1' : i < xs.length := by omega
    have hd : l.drop i = l[i] :: l.drop (i + 1) := (List.drop_eq_getElem_cons h1)
    have hd' : xs.drop i = xs[i] :: xs.drop (i + 1) := (List.drop_eq_getElem_cons h1')
    have g1 : (l.map vrI)[(i : Int).toNat]? = some (vrI l[i]) := get_mapZ h1
    have g2 : (xs.map fun x => [vi x])[(i : Int).toNat]? = some [vi xs[i]] := get_mapZ (f := fun x => [vi x]) h1'
    generalize l[i] = v at hd g1
    generalize xs[i] = x at hd' g2
    refine m_need Tk Tryz.func22 (by omega) ?_
    refine m_elem Tk Tryz.func22 (d := vrI v) g1 ?_
    refine m_drawnS Tk mixedT rfl ?_
    refine s_need Tk (by omega) ?_
    refine s_elem Tk g2 ?_
    refine s_know Tk (fun h2 => ?_) (fun h2 => ?_)
    · have h2 : x < v.low := of_decide_eq_true h2
      refine s_done Tk Tryz.func22 (by kernel_rfl) ?_
      refine m_cnd Tk Tryz.func22 rfl (fun _ => ?_) (fun h => by cases h)
      refine m_ret' (hT := Tk) (r := bb _) rfl rfl rfl trivial rfl rfl ?_
      rw [hd, hd']
      simp only [within]
      rw [decide_eq_false (by omega : ¬ v.low ≤ x)]
      rfl
    · have h2 : ¬ x < v.low := of_decide_eq_false h2
      refine s_need Tk (by omega) ?_
      refine s_elem Tk g2 ?_
      refine s_done Tk Tryz.func22 (by kernel_rfl) ?_
      refine m_cnd Tk Tryz.func22 rfl (fun h3 => ?_) (fun h3 => ?_)
      · have h3 : x > v.high := of_decide_eq_true h3
        refine m_ret' (hT := Tk) (r := bb _) rfl rfl rfl trivial rfl rfl ?_
        rw [hd, hd']
        simp only [within]
        rw [decide_eq_false (by omega : ¬ x ≤ v.high), Bool.and_false]
        rfl
      · have h3 : ¬ x > v.high := of_decide_eq_false h3
        refine ih (i + 1) _ _ ⟨h1, ?_⟩ (by omega) ⟨rfl, rfl, rfl, rfl, congrArg ii (wsucc h1 hl), trivial⟩ rfl trivial rfl rfl
        rw [hd, hd']
        simp only [within]
        rw [decide_eq_true (by omega : v.low ≤ x), decide_eq_true (by omega : x ≤ v.high)]
        rfl
  · have h1 : l.length ≤ i := by simpa using h1
    refine m_ret' (hT := Tk) (r := bb _) rfl rfl rfl trivial rfl rfl ?_
    rw [List.drop_eq_nil_of_le h1, List.drop_eq_nil_of_le (by omega)]
    rfl
end Go.AI


/- Objects that are written through a pointer: stacks with one object set. -/
namespace Go.AI
theorem objAt_set : ∀ {S : List Heap} {d nm : Nat} {ob : Ob} (d' n' : Nat), objAt (setAt S d nm ob) d' n' = if d = d' ∧ nm = n' ∧ d < S.length then some ob else objAt S d' n'
  | [], d, nm, ob, d', n' => by simp [setAt]
  | H :: S, 0, nm, ob, d', n' => by
    cases d' with
    | zero =>
      simp only [setAt, objAt, List.getElem?_cons_zero, look_cons]
      by_cases h : nm = n' <;> simp [h]
    | succ d' => simp [setAt, objAt]
  | H :: S, d + 1, nm, ob, d', n' => by
    cases d' with
    | zero => simp [setAt, objAt]
    | succ d' =>
      have := objAt_set (S := S) (d := d) (nm := nm) (ob := ob) d' n'
      simp only [objAt] at this
      simp only [setAt, objAt, List.getElem?_cons_succ, this]
      simp
theorem objAt_lt {S : List Heap} {d nm : Nat} {ob : Ob} (h : objAt S d nm = some ob) : d < S.length := by
  unfold objAt at h
  cases e : S[d]? with
  | none => simp [e] at h
  | some H => exact (List.getElem?_eq_some_iff.1 e).1
theorem length_set : ∀ {S : List Heap} {d nm : Nat} {ob : Ob}, (setAt S d nm ob).length = S.length
  | [], d, nm, ob => by simp [setAt]
  | H :: S, 0, nm, ob => rfl
  | H :: S, d + 1, nm, ob => by simp [setAt, length_set]
theorem objAt_set_same {S : List Heap} {d nm : Nat} {ob ob' : Ob} (h : objAt S d nm = some ob) : objAt (setAt S d nm ob') d nm = some ob' := by
  rw [objAt_set, if_pos ⟨rfl, rfl, objAt_lt h⟩]
theorem objAt_set2 {S : List Heap} {d nm : Nat} {a b : Ob} (d' n' : Nat) : objAt (setAt S d nm b) d' n' = objAt (setAt (setAt S d nm a) d nm b) d' n' := by
  simp only [objAt_set, length_set]
  by_cases h : d = d' ∧ nm = n' ∧ d < S.length
  · rw [if_pos h, if_pos h]
  · rw [if_neg h, if_neg h, if_neg h]
theorem objAt_set_id {S : List Heap} {d nm : Nat} {a : Ob} (h : objAt S d nm = some a) (d' n' : Nat) : objAt (setAt S d nm a) d' n' = objAt S d' n' := by
  rw [objAt_set]
  by_cases e : d = d' ∧ nm = n' ∧ d < S.length
  · obtain ⟨rfl, rfl, _⟩ := e
    rw [if_pos ⟨rfl, rfl, objAt_lt h⟩, h]
  · rw [if_neg e]
theorem shape_set {S : List Heap} {d nm : Nat} {ob ob' : Ob} (h : objAt S d nm = some ob) (hs : ob'.sh = ob.sh) : shape (setAt S d nm ob') = shape S := by
  funext d' n'
  simp only [shape, objAt_set]
  by_cases e : d = d' ∧ nm = n' ∧ d < S.length
  · obtain ⟨rfl, rfl, _⟩ := e
    rw [if_pos ⟨rfl, rfl, objAt_lt h⟩, h]
    simp [hs]
  · rw [if_neg e]
/-- A state that is met again. -/
theorem rch_fit {c : Cx} {todo : List Item} {s : St} {l : List (Nat × D)} {S' : List Heap} {n' : Nat} (h : Rch c todo { σ := l, S := S', n := n' }) (hs : Sub s l) (hS : s.S = S') (hn : s.n = n') : Rch c todo s := by
  subst hS
  subst hn
  exact rch_cut h hs
theorem rch_meet {c : Cx} {todo : List Item} {s : St} {l : List (Nat × D)} {H Hv : Heap} {O : List Heap} {n : Nat} (h : Rch c todo { σ := l, S := Hv :: O, n := n }) (hs : Sub s l) (hS : s.S = H :: O) (hH : SubH H Hv) (hok : okCut l Hv = true) (hn : s.n = n) : Rch c todo s := rch_cut2 hs hS hH hok hn h
theorem join_p {c : Cx} {todo : List Item} {s6 : St} {G P : Prop} (h1 : (P → Rch c todo s6) → G) (h2 : P → Rch c todo s6) : G := h1 h2
theorem join_q {c : Cx} {todo : List Item} {G : Prop} {α : Type} {P : α → Prop} {s6 : α → St} (h1 : (∀ a, P a → Rch c todo (s6 a)) → G) (h2 : ∀ a, P a → Rch c todo (s6 a)) : G := h1 h2
theorem take_map_succ {α β : Type} {f : α → β} {l : List α} {i : Nat} (h : i < l.length) : (l.take (i + 1)).map f = (l.take i).map f ++ [f l[i]] := by
  rw [List.take_add_one, List.getElem?_eq_getElem h, List.map_append]
  rfl
theorem beqT {a b : Int} (h : (a == b) = true) : a = b := by simpa using h
theorem beqF {a b : Int} (h : (a == b) = false) : a ≠ b := by simpa using h
theorem bneT {a b : Int} (h : (a != b) = true) : a ≠ b := by simpa using h
theorem bneF {a b : Int} (h : (a != b) = false) : a = b := by simpa using h
theorem notT {b : Bool} (h : (!b) = true) : b = false := by simpa using h
theorem notF {b : Bool} (h : (!b) = false) : b = true := by simpa using h
theorem up_obj {H : Heap} {S : List Heap} {d nm : Nat} {o : Ob} (h : objAt S d nm = some o) : objAt (H :: S) (d + 1) nm = some o := h
/-- The same, over a head. -/
theorem objAt_cons {H : Heap} {S S' : List Heap} (h : ∀ d n, objAt S' d n = objAt S d n) (d n : Nat) : objAt (H :: S') d n = objAt (H :: S) d n := by
  cases d with
  | zero => rfl
  | succ d => have := h d n; simpa [objAt] using this
theorem shape_cons {H : Heap} {S S' : List Heap} (h : shape S' = shape S) : shape (H :: S') = shape (H :: S) := by
  funext d n
  cases d with
  | zero => simp [shape, objAt]
  | succ d =>
    have := congrFun (congrFun h d) n
    simpa [shape, objAt] using this
end Go.AI


namespace Go.AI
open Go.Proofs
set_option maxRecDepth 20000
theorem large70k (O : List Heap) (a b : Int) (h0 : 0 ≤ b) (h1 : b ≤ max63) : ASpec Tryz.prog 91 [ii a, ii b] O (bb (decide (b < a) || decide (a < -b))) [] O := by
  have h := large70 O a b
  simp only [max63] at h1
  rw [w64 (by omega) (by omega), Int.zero_sub] at h
  exact h
theorem orT {p q : Prop} [Decidable p] [Decidable q] (h : (decide p || decide q) = true) : p ∨ q := by simpa using h
theorem orF {p q : Prop} [Decidable p] [Decidable q] (h : (decide p || decide q) = false) : ¬ (p ∨ q) := by
  intro h'
  have : (decide p || decide q) = true := by simpa using h'
  rw [h] at this; cases this
/-- Whether an expression, without those below, is well-formed: its first error. -/
def formHead (op v ix : Int) (len : Nat) (n : Int) : Int :=
  if (arity op).2 = false then 11 else
  if (len : Int) ≠ (arity op).1 then 4 else
  if (op ≠ 0 ∧ v ≠ 0) ∨ (op ≠ 1 ∧ ix ≠ 0) then 6 else
  if (op = 0 ∧ (65536 < v ∨ v < -65536)) ∨ (op = 1 ∧ (ix < 0 ∨ ix ≥ n)) then 2 else 0
mutual
/-- The first error, and the count. -/
def formR : Ex → Int → Int → Int → Int × Int
  | .mk op v ix args, n, lvl, c =>
    if c = 64 ∨ lvl > 8 then (3, c) else
    if formHead op v ix args.length n ≠ 0 then (formHead op v ix args.length n, c + 1) else formRs args n (lvl + 1) (c + 1)
def formRs : List Ex → Int → Int → Int → Int × Int
  | [], _, _, c => (0, c)
  | e :: r, n, lvl, c => if (formR e n lvl c).1 ≠ 0 then formR e n lvl c else formRs r n lvl (formR e n lvl c).2
end
mutual
theorem formR_cnt : ∀ (x : Ex) (n lvl c : Int), 0 ≤ c → c ≤ 64 → 0 ≤ (formR x n lvl c).2 ∧ (formR x n lvl c).2 ≤ 64
  | .mk op v ix args, n, lvl, c, h0, h1 => by
    simp only [formR]
    split
    · exact ⟨h0, h1⟩
    · split
      · simp only; omega
      · exact formRs_cnt args n (lvl + 1) (c + 1) (by omega) (by omega)
theorem formRs_cnt : ∀ (l : List Ex) (n lvl c : Int), 0 ≤ c → c ≤ 64 → 0 ≤ (formRs l n lvl c).2 ∧ (formRs l n lvl c).2 ≤ 64
  | [], n, lvl, c, h0, h1 => ⟨h0, h1⟩
  | e :: r, n, lvl, c, h0, h1 => by
    have := formR_cnt e n lvl c h0 h1
    simp only [formRs]
    split
    · exact this
    · exact formRs_cnt r n lvl _ this.1 this.2
end
theorem formed84 : ∀ (N : Nat) (x : Ex), SizeOf.sizeOf x < N → exOk x → ∀ (O : List Heap) (d nm : Nat) (n lvl c : Int), objAt O d nm = some (.box [ii c]) → 0 ≤ c → c ≤ 64 → 0 ≤ lvl → lvl ≤ 9 →
    ASpec Tryz.prog 103 [exD x, ii n, ii lvl, .own d nm 0 0] O (ii (formR x n lvl c).1) [] (setAt O d nm (.box [ii (formR x n lvl c).2])) := by
  intro N
  induction N with
  | zero => intro x h; omega
  | succ N ihN =>
    intro x hs hok O d nm n lvl c ho hc0 hc1 hl0 hl1
    obtain ⟨op, v, ix, args⟩ := x
    simp only [exOk] at hok
    have hch : ∀ e ∈ args, ∀ (O : List Heap) (d nm : Nat) (n lvl c : Int), objAt O d nm = some (.box [ii c]) → 0 ≤ c → c ≤ 64 → 0 ≤ lvl → lvl ≤ 9 →
        ASpec Tryz.prog 103 [exD e, ii n, ii lvl, .own d nm 0 0] O (ii (formR e n lvl c).1) [] (setAt O d nm (.box [ii (formR e n lvl c).2])) := by
      intro e he
      refine ihN e ?_ (exOks_mem hok.2 e he)
      have := List.sizeOf_lt_of_mem he
      simp only [Ex.mk.sizeOf_spec] at hs
      omega
    have hlen : args.length ≤ max63 := hok.1
    generalize hR : formR (.mk op v ix args) n lvl c = R
    have hO1 : ∀ H, objAt (H :: O) (d + 1) nm = some (.box [ii c]) := fun H => by simpa [objAt] using ho
    have hw : c ≠ 64 → IntKind.i64.wrap (c + 1) = c + 1 := fun h => w64 (by omega) (by omega)
    have hwl : IntKind.i64.wrap (lvl + 1) = lvl + 1 := w64 (by omega) (by omega)
    have early : c = 64 ∨ lvl > 8 → R = (3, c) := fun h => by rw [← hR]; simp only [formR]; rw [if_pos h]
    have head : ¬(c = 64 ∨ lvl > 8) → formHead op v ix args.length n ≠ 0 → R = (formHead op v ix args.length n, c + 1) := fun h h2 => by rw [← hR]; simp only [formR]; rw [if_neg h, if_pos h2]
    have body : ¬(c = 64 ∨ lvl > 8) → formHead op v ix args.length n = 0 → R = formRs args n (lvl + 1) (c + 1) := fun h h2 => by rw [← hR]; simp only [formR]; rw [if_neg h, if_neg (by simpa using h2)]
    refine aspec_stop [3, 9, 11, 13] Tk Tryz.func103 rfl Tryz.call103 Tryz.ntmps103 (Nat.le_of_ble_eq_true rfl) fun E => ?_
    refine g_run Tk Tryz.func103 ?_
    first | refine g_obj Tk Tryz.func103 (hO1 _) ?_ | refine s_obj Tk (hO1 _) ?_
    apply join_p (P := ¬(c = 64 ∨ lvl > 8)) (s6 := { σ := [(1, ii n), (2, ii lvl), (3, .own (d + 1) nm 0 0), (4, .own 0 4 0 0)], S := [(4, .box [ii op, ii v, ii ix, exs args])] :: O, n := 103 })
    · intro J
      first | refine g_cnd Tk Tryz.func103 rfl (fun h1 => ?_) (fun h1 => ?_) | refine g_know Tk Tryz.func103 rfl (fun h1 => ?_) (fun h1 => ?_) | refine s_know Tk (fun h1 => ?_) (fun h1 => ?_)
      · have := early (.inl (beqT h1))
        subst this
        first | refine g_cnd Tk Tryz.func103 rfl (fun _ => ?_) (fun h => absurd h (by decide)) | refine g_know Tk Tryz.func103 rfl (fun _ => ?_) (fun h => absurd h (by decide)) | refine s_know Tk (fun _ => ?_) (fun h => absurd h (by decide))
        refine g_rwk (wk_S (S' := _ :: setAt O d nm (.box [ii c])) (objAt_cons (objAt_set_id ho))) ?_
        refine g_ret Tk (r := ii 3) rfl rfl rfl trivial rfl rfl ?_
        rfl
      · first | refine g_cnd Tk Tryz.func103 rfl (fun h2 => ?_) (fun h2 => ?_) | refine g_know Tk Tryz.func103 rfl (fun h2 => ?_) (fun h2 => ?_) | refine s_know Tk (fun h2 => ?_) (fun h2 => ?_)
        · have := early (.inr (by have := of_decide_eq_true h2; omega))
          subst this
          refine g_rwk (wk_S (S' := _ :: setAt O d nm (.box [ii c])) (objAt_cons (objAt_set_id ho))) ?_
          refine g_ret Tk (r := ii 3) rfl rfl rfl trivial rfl rfl ?_
          rfl
        · have h1 := beqF h1
          have h2 := of_decide_eq_false h2
          refine g_stop ?_
          exact rch_fit (J (by omega)) ⟨rfl, rfl, rfl, rfl, trivial⟩ rfl rfl
    · intro hP
      have hw := hw (by omega)
      have head := head hP
      have body := body hP
      clear early
      let s2 : St := { σ := [(1, ii n), (2, ii lvl), (3, .own (d + 1) nm 0 0), (4, .own 0 4 0 0)], S := [(4, .box [ii op, ii v, ii ix, exs args])] :: setAt O d nm (.box [ii (c + 1)]), n := 103 }
      have hSS : [(4, Ob.box [ii op, ii v, ii ix, exs args])] :: setAt O d nm (.box [ii (IntKind.i64.wrap (c + 1))]) = s2.S := by rw [hw]
      have hS2 : ∀ d' n', objAt s2.S d' n' = objAt ([(4, Ob.box [ii op, ii v, ii ix, exs args])] :: setAt O d nm (.box [ii (IntKind.i64.wrap (c + 1))])) d' n' := by rw [hSS]; exact fun _ _ => rfl
      refine g_run Tk Tryz.func103 ?_
      refine g_go Tk Tryz.func103 ?_
      first | refine g_obj Tk Tryz.func103 (hO1 _) ?_ | refine s_obj Tk (hO1 _) ?_
      first | refine g_obj Tk Tryz.func103 (hO1 _) ?_ | refine s_obj Tk (hO1 _) ?_
      first | refine g_call Tk Tryz.func103 (arguments92 _ op) rfl rfl rfl rfl rfl ?_ | refine s_call Tk (arguments92 _ op) rfl rfl rfl ?_
      first | refine g_cnd Tk Tryz.func103 rfl (fun h3 => ?_) (fun h3 => ?_) | refine g_know Tk Tryz.func103 rfl (fun h3 => ?_) (fun h3 => ?_) | refine s_know Tk (fun h3 => ?_) (fun h3 => ?_)
      · have h3 := notT h3
        have hh : formHead op v ix args.length n = 11 := by unfold formHead; rw [if_pos h3]
        have := head (by rw [hh]; decide)
        subst this
        refine g_rwk (wk_S (S' := s2.S) (by exact hS2)) ?_
        refine g_ret Tk (r := ii 11) rfl rfl rfl trivial rfl rfl ?_
        rw [hh]
      have h3 := notF h3
      have h3 : ¬ (arity op).2 = false := by rw [h3]; simp
      first | refine g_cnd Tk Tryz.func103 rfl (fun h4 => ?_) (fun h4 => ?_) | refine g_know Tk Tryz.func103 rfl (fun h4 => ?_) (fun h4 => ?_) | refine s_know Tk (fun h4 => ?_) (fun h4 => ?_)
      · have h4 := bneT h4
        have hh : formHead op v ix args.length n = 4 := by unfold formHead; rw [if_neg h3, if_pos h4]
        have := head (by rw [hh]; decide)
        subst this
        refine g_rwk (wk_S (S' := s2.S) (by exact hS2)) ?_
        refine g_ret Tk (r := ii 4) rfl rfl rfl trivial rfl rfl ?_
        rw [hh]
      have h4 := bneF h4
      have h4 : ¬ (args.length : Int) ≠ (arity op).1 := by omega
      have bad6 : (op ≠ 0 ∧ v ≠ 0) ∨ (op ≠ 1 ∧ ix ≠ 0) → R = (6, c + 1) := fun h => by
        have hh : formHead op v ix args.length n = 6 := by unfold formHead; rw [if_neg h3, if_neg h4, if_pos h]
        rw [head (by rw [hh]; decide), hh]
      apply join_p (P := ¬ ((op ≠ 0 ∧ v ≠ 0) ∨ (op ≠ 1 ∧ ix ≠ 0))) (s6 := s2)
      · intro J
        refine g_stop ?_
        refine g_run Tk Tryz.func103 ?_
        refine g_go Tk Tryz.func103 ?_
        first | refine g_cnd Tk Tryz.func103 rfl (fun h5 => ?_) (fun h5 => ?_) | refine g_know Tk Tryz.func103 rfl (fun h5 => ?_) (fun h5 => ?_) | refine s_know Tk (fun h5 => ?_) (fun h5 => ?_)
        · have h5 := bneT h5
          first | refine g_cnd Tk Tryz.func103 rfl (fun h6 => ?_) (fun h6 => ?_) | refine g_know Tk Tryz.func103 rfl (fun h6 => ?_) (fun h6 => ?_) | refine s_know Tk (fun h6 => ?_) (fun h6 => ?_)
          · have := bad6 (.inl ⟨h5, bneT h6⟩)
            subst this
            first | refine g_cnd Tk Tryz.func103 rfl (fun _ => ?_) (fun h => absurd h (by decide)) | refine g_know Tk Tryz.func103 rfl (fun _ => ?_) (fun h => absurd h (by decide)) | refine s_know Tk (fun _ => ?_) (fun h => absurd h (by decide))
            refine g_rwk (wk_S (S' := s2.S) (by exact hS2)) ?_
            refine g_ret Tk (r := ii 6) rfl rfl rfl trivial rfl rfl ?_
            rfl
          · have h6 := bneF h6
            first | refine g_cnd Tk Tryz.func103 rfl (fun h7 => ?_) (fun h7 => ?_) | refine g_know Tk Tryz.func103 rfl (fun h7 => ?_) (fun h7 => ?_) | refine s_know Tk (fun h7 => ?_) (fun h7 => ?_)
            · have h7 := bneT h7
              first | refine g_cnd Tk Tryz.func103 rfl (fun h8 => ?_) (fun h8 => ?_) | refine g_know Tk Tryz.func103 rfl (fun h8 => ?_) (fun h8 => ?_) | refine s_know Tk (fun h8 => ?_) (fun h8 => ?_)
              · have := bad6 (.inr ⟨h7, bneT h8⟩)
                subst this
                refine g_rwk (wk_S (S' := s2.S) (by exact hS2)) ?_
                refine g_ret Tk (r := ii 6) rfl rfl rfl trivial rfl rfl ?_
                rfl
              · have h8 := bneF h8
                refine g_stop ?_
                exact rch_fit (J (by omega)) ⟨rfl, rfl, rfl, rfl, trivial⟩ hSS rfl
            · have h7 := bneF h7
              first | refine g_cnd Tk Tryz.func103 rfl (fun h => absurd h (by decide)) (fun _ => ?_) | refine g_know Tk Tryz.func103 rfl (fun h => absurd h (by decide)) (fun _ => ?_) | refine s_know Tk (fun h => absurd h (by decide)) (fun _ => ?_)
              refine g_stop ?_
              exact rch_fit (J (by omega)) ⟨rfl, rfl, rfl, rfl, trivial⟩ hSS rfl
        · have h5 := bneF h5
          first | refine g_cnd Tk Tryz.func103 rfl (fun h => absurd h (by decide)) (fun _ => ?_) | refine g_know Tk Tryz.func103 rfl (fun h => absurd h (by decide)) (fun _ => ?_) | refine s_know Tk (fun h => absurd h (by decide)) (fun _ => ?_)
          first | refine g_cnd Tk Tryz.func103 rfl (fun h7 => ?_) (fun h7 => ?_) | refine g_know Tk Tryz.func103 rfl (fun h7 => ?_) (fun h7 => ?_) | refine s_know Tk (fun h7 => ?_) (fun h7 => ?_)
          · have h7 := bneT h7
            first | refine g_cnd Tk Tryz.func103 rfl (fun h8 => ?_) (fun h8 => ?_) | refine g_know Tk Tryz.func103 rfl (fun h8 => ?_) (fun h8 => ?_) | refine s_know Tk (fun h8 => ?_) (fun h8 => ?_)
            · have := bad6 (.inr ⟨h7, bneT h8⟩)
              subst this
              refine g_rwk (wk_S (S' := s2.S) (by exact hS2)) ?_
              refine g_ret Tk (r := ii 6) rfl rfl rfl trivial rfl rfl ?_
              rfl
            · have h8 := bneF h8
              refine g_stop ?_
              exact rch_fit (J (by omega)) ⟨rfl, rfl, rfl, rfl, trivial⟩ hSS rfl
          · have h7 := bneF h7
            omega
      · intro hQ
        have bad2 : (op = 0 ∧ (65536 < v ∨ v < -65536)) ∨ (op = 1 ∧ (ix < 0 ∨ ix ≥ n)) → R = (2, c + 1) := fun h => by
          have hh : formHead op v ix args.length n = 2 := by unfold formHead; rw [if_neg h3, if_neg h4, if_neg hQ, if_pos h]
          rw [head (by rw [hh]; decide), hh]
        have good : ¬ ((op = 0 ∧ (65536 < v ∨ v < -65536)) ∨ (op = 1 ∧ (ix < 0 ∨ ix ≥ n))) → R = formRs args n (lvl + 1) (c + 1) := fun h => by
          have hh : formHead op v ix args.length n = 0 := by unfold formHead; rw [if_neg h3, if_neg h4, if_neg hQ, if_neg h]
          exact body hh
        clear head body bad6
        apply join_p (P := R = formRs args n (lvl + 1) (c + 1)) (s6 := s2)
        · intro J
          refine g_run Tk Tryz.func103 ?_
          refine g_go Tk Tryz.func103 ?_
          first | refine g_cnd Tk Tryz.func103 rfl (fun h5 => ?_) (fun h5 => ?_) | refine g_know Tk Tryz.func103 rfl (fun h5 => ?_) (fun h5 => ?_) | refine s_know Tk (fun h5 => ?_) (fun h5 => ?_)
          · have h5 := beqT h5
            first | refine g_call Tk Tryz.func103 (large70k _ v 65536 (by decide) (by decide)) rfl rfl rfl rfl rfl ?_ | refine s_call Tk (large70k _ v 65536 (by decide) (by decide)) rfl rfl rfl ?_
            first | refine g_cnd Tk Tryz.func103 rfl (fun h6 => ?_) (fun h6 => ?_) | refine g_know Tk Tryz.func103 rfl (fun h6 => ?_) (fun h6 => ?_) | refine s_know Tk (fun h6 => ?_) (fun h6 => ?_)
            · have h6 := orT h6
              have := bad2 (.inl ⟨h5, h6⟩)
              subst this
              first | refine g_cnd Tk Tryz.func103 rfl (fun _ => ?_) (fun h => absurd h (by decide)) | refine g_know Tk Tryz.func103 rfl (fun _ => ?_) (fun h => absurd h (by decide)) | refine s_know Tk (fun _ => ?_) (fun h => absurd h (by decide))
              refine g_ret Tk (r := ii 2) rfl rfl rfl trivial rfl rfl ?_
              rfl
            · have h6 := orF h6
              first | refine g_cnd Tk Tryz.func103 rfl (fun h7 => ?_) (fun h7 => ?_) | refine g_know Tk Tryz.func103 rfl (fun h7 => ?_) (fun h7 => ?_) | refine s_know Tk (fun h7 => ?_) (fun h7 => ?_)
              · have h7 := beqT h7
                omega
              · first | refine g_cnd Tk Tryz.func103 rfl (fun h => absurd h (by decide)) (fun _ => ?_) | refine g_know Tk Tryz.func103 rfl (fun h => absurd h (by decide)) (fun _ => ?_) | refine s_know Tk (fun h => absurd h (by decide)) (fun _ => ?_)
                refine g_stop ?_
                exact rch_fit (J (good (by omega))) ⟨rfl, rfl, rfl, rfl, trivial⟩ rfl rfl
          · have h5 := beqF h5
            first | refine g_cnd Tk Tryz.func103 rfl (fun h => absurd h (by decide)) (fun _ => ?_) | refine g_know Tk Tryz.func103 rfl (fun h => absurd h (by decide)) (fun _ => ?_) | refine s_know Tk (fun h => absurd h (by decide)) (fun _ => ?_)
            first | refine g_cnd Tk Tryz.func103 rfl (fun h7 => ?_) (fun h7 => ?_) | refine g_know Tk Tryz.func103 rfl (fun h7 => ?_) (fun h7 => ?_) | refine s_know Tk (fun h7 => ?_) (fun h7 => ?_)
            · have h7 := beqT h7
              first | refine g_cnd Tk Tryz.func103 rfl (fun h8 => ?_) (fun h8 => ?_) | refine g_know Tk Tryz.func103 rfl (fun h8 => ?_) (fun h8 => ?_) | refine s_know Tk (fun h8 => ?_) (fun h8 => ?_)
              · have h8 := of_decide_eq_true h8
                have := bad2 (.inr ⟨h7, .inl h8⟩)
                subst this
                first | refine g_cnd Tk Tryz.func103 rfl (fun _ => ?_) (fun h => absurd h (by decide)) | refine g_know Tk Tryz.func103 rfl (fun _ => ?_) (fun h => absurd h (by decide)) | refine s_know Tk (fun _ => ?_) (fun h => absurd h (by decide))
                refine g_ret Tk (r := ii 2) rfl rfl rfl trivial rfl rfl ?_
                rfl
              · have h8 := of_decide_eq_false h8
                first | refine g_cnd Tk Tryz.func103 rfl (fun h9 => ?_) (fun h9 => ?_) | refine g_know Tk Tryz.func103 rfl (fun h9 => ?_) (fun h9 => ?_) | refine s_know Tk (fun h9 => ?_) (fun h9 => ?_)
                · have h9 := of_decide_eq_true h9
                  have := bad2 (.inr ⟨h7, .inr h9⟩)
                  subst this
                  refine g_ret Tk (r := ii 2) rfl rfl rfl trivial rfl rfl ?_
                  rfl
                · have h9 := of_decide_eq_false h9
                  refine g_stop ?_
                  exact rch_fit (J (good (by omega))) ⟨rfl, rfl, rfl, rfl, trivial⟩ rfl rfl
            · have h7 := beqF h7
              first | refine g_cnd Tk Tryz.func103 rfl (fun h => absurd h (by decide)) (fun _ => ?_) | refine g_know Tk Tryz.func103 rfl (fun h => absurd h (by decide)) (fun _ => ?_) | refine s_know Tk (fun h => absurd h (by decide)) (fun _ => ?_)
              refine g_stop ?_
              exact rch_fit (J (good (by omega))) ⟨rfl, rfl, rfl, rfl, trivial⟩ rfl rfl
        · intro hR
          clear good bad2 hQ h3 h4
          refine g_run Tk Tryz.func103 ?_
          refine g_go Tk Tryz.func103 ?_
          refine g_loop ?_
          have hx : objAt O d nm = some (.box [ii c]) := ho
          refine rch_loop2 (fun x : Nat × Int => [(1, ii n), (2, ii lvl), (3, .own (d + 1) nm 0 0), (87, exs args), (88, ii args.length), (89, ii x.1)]) (fun _ => []) (fun x => setAt O d nm (.box [ii x.2])) 103
            (fun x => x.1 ≤ args.length ∧ 0 ≤ x.2 ∧ x.2 ≤ 64 ∧ R = formRs (args.drop x.1) n (lvl + 1) x.2) (fun x => args.length - x.1) (0, c + 1) ⟨Nat.zero_le _, by simp only; omega, by simp only; omega, hR⟩ ⟨rfl, rfl, rfl, rfl, rfl, rfl, trivial⟩ rfl trivial rfl rfl ?_
          rintro ⟨i, c'⟩ ⟨hi, hc0', hc1', hno⟩ ih
          simp only at hi hc0' hc1' hno
          refine g_run Tk Tryz.func103 ?_
          first | refine g_cnd Tk Tryz.func103 rfl (fun h5 => ?_) (fun h5 => ?_) | refine g_know Tk Tryz.func103 rfl (fun h5 => ?_) (fun h5 => ?_) | refine s_know Tk (fun h5 => ?_) (fun h5 => ?_)
          · have h5 : i < args.length := by simpa using h5
            have hd : args.drop i = args[i] :: args.drop (i + 1) := (List.drop_eq_getElem_cons h5)
            have hm := List.getElem_mem h5
            have hg := exIs_get h5
            generalize args[i] = e at hd hm hg
            have hce := fun O ho => hch e hm O (d + 1) nm n (IntKind.i64.wrap (lvl + 1)) c' ho hc0' hc1' (by omega) (by omega)
            have hcnt := formR_cnt e n (IntKind.i64.wrap (lvl + 1)) c' hc0' hc1'
            obtain ⟨eo, ev, ei, ea⟩ := e
            simp only [exI] at hg
            rw [hd] at hno
            simp only [formRs] at hno
            rw [← hwl] at hno
            first | refine g_need Tk Tryz.func103 (by omega) ?_ | refine s_need Tk (by omega) ?_
            first | refine g_elem Tk Tryz.func103 (hg) ?_ | refine s_elem Tk (hg) ?_
            refine g_call Tk Tryz.func103 (hce _ (by exact up_obj (objAt_set_same ho))) rfl rfl rfl (shape_cons (shape_set (objAt_set_same ho) rfl)) rfl ?_
            generalize formR (.mk eo ev ei ea) n (IntKind.i64.wrap (lvl + 1)) c' = Q at hno hcnt
            obtain ⟨qe, qc⟩ := Q
            simp only at hno hcnt
            first | refine g_cnd Tk Tryz.func103 rfl (fun h6 => ?_) (fun h6 => ?_) | refine g_know Tk Tryz.func103 rfl (fun h6 => ?_) (fun h6 => ?_) | refine s_know Tk (fun h6 => ?_) (fun h6 => ?_)
            · have h6 := bneT h6
              rw [if_pos h6] at hno
              subst hno
              refine g_rwk (wk_S (S' := _ :: setAt O d nm (.box [ii qc])) (objAt_cons fun d n => objAt_set2 d n)) ?_
              refine g_ret Tk (r := ii _) rfl rfl rfl trivial rfl rfl ?_
              rfl
            · have h6 := bneF h6
              rw [if_neg (by simpa using h6), hwl] at hno
              refine g_wk (wk_S (S' := _ :: setAt O d nm (.box [ii qc])) (objAt_cons fun d n => objAt_set2 d n)) ?_
              refine g_loop ?_
              refine ih (i + 1, qc) _ _ ⟨h5, hcnt.1, hcnt.2, hno⟩ (by simp only; omega) ⟨rfl, rfl, rfl, rfl, rfl, congrArg ii (wsucc h5 hlen), trivial⟩ rfl trivial rfl rfl
          · have h5 : args.length ≤ i := by simpa using h5
            rw [List.drop_eq_nil_of_le h5] at hno
            subst hno
            refine g_ret Tk (r := ii 0) rfl rfl rfl trivial rfl rfl ?_
            rfl
end Go.AI


/- A variable that holds a nil slice: as one that holds an own slice of no elements. -/
namespace Go.AI
section
variable {c : Cx} {s : St} {E : Env} {K : Kn} {ρ : Nat → Nat → Loc} {H : Heap} {O : List Heap} {w : World}
theorem HInv.rebox {b : Nat} {cs cs' : List D} (hh : HInv E K ρ (H :: O) w) (ho : look H b = some (.box cs)) (hc : ∀ vs, RepDL K ρ (shape (H :: O)) vs cs → RepDL K ρ (shape (H :: O)) vs cs') : HInv E K ρ (((b, .box cs') :: H) :: O) w := by
  have hsh : shape (((b, .box cs') :: H) :: O) = shape (H :: O) := shape_over ho rfl
  have hcase : ∀ d n o, objAt (((b, .box cs') :: H) :: O) d n = some o → ∃ o0, objAt (H :: O) d n = some o0 ∧ (o = o0 ∨ (d = 0 ∧ n = b ∧ o = .box cs' ∧ o0 = .box cs)) ∧ (∀ l, backed l o ↔ backed l o0) := by
    intro d n o e
    rcases objAt_over (ob := .box cs) e with ⟨rfl, rfl, rfl⟩ | ⟨_, e2⟩
    · exact ⟨.box cs, by simpa [objAt] using ho, .inr ⟨rfl, rfl, rfl, rfl⟩, fun l => Iff.rfl⟩
    · exact ⟨o, e2, .inl rfl, fun _ => Iff.rfl⟩
  refine ⟨hh.holds, ?_, ?_, hh.size, ?_, ?_, hh.outer, hh.Kle, hh.Knew, hh.rest⟩
  · intro d n o e
    obtain ⟨o0, e0, h1, _⟩ := hcase d n o e
    have h0 := hh.own _ _ _ e0
    have hdr : shape ((((b, .box cs') :: H) :: O).drop d) = shape ((H :: O).drop d) := by
      cases d with
      | zero => exact hsh
      | succ d => rfl
    rw [hdr]
    rcases h1 with rfl | ⟨rfl, rfl, rfl, rfl⟩
    · exact h0
    · obtain ⟨cl, T, a1, a2, a3⟩ := h0
      have e2 : (fun d n => ρ (0 + d) n) = ρ := by funext d n; rw [Nat.zero_add]
      rw [e2] at a2 ⊢
      exact ⟨cl, T, a1, hc _ a2, a3⟩
  · intro d n o d' n' o' e e' b1 b2 hbe
    obtain ⟨o1, e1, _, h1⟩ := hcase d n o e
    obtain ⟨o2, e2, _, h2⟩ := hcase d' n' o' e'
    exact hh.inj _ _ _ _ _ _ e1 e2 ((h1 _).1 b1) ((h2 _).1 b2) hbe
  · intro b' hb hno
    exact hh.old b' hb fun d n o e => hno d n o (by simpa [objAt] using e)
  · intro n o e hb
    obtain ⟨o1, e1, _, h1⟩ := hcase 0 n o e
    exact hh.loc _ _ e1 ((h1 _).1 hb)
theorem RepDL.mid {K : Kn} {ρ : Nat → Nat → Loc} {sh : Nat → Nat → Option Sh} {d d' : D} (h : ∀ v, RepD K ρ sh v d → RepD K ρ sh v d') : ∀ {a b : List D} {vs : List Value}, RepDL K ρ sh vs (a ++ d :: b) → RepDL K ρ sh vs (a ++ d' :: b)
  | [], b, _, .cons r rs => .cons (h _ r) rs
  | _ :: a, b, _, .cons r rs => .cons r (RepDL.mid (a := a) h rs)
theorem wk_nilbox2 (b nm e z : Nat) {pre post : List D} (hS : s.S = H :: O) (hb : look H b = some (.box (pre ++ .i (.v (.slice none 0 0)) :: post))) (hf : look H nm = none) : Wk c s { σ := s.σ, S := ((b, .box (pre ++ .osl 0 nm :: post)) :: (nm, .arr e z 0 [] true) :: H) :: O, n := s.n } := by
  intro K ρ a w hi
  have hh := hi.h
  rw [hS] at hh
  let l0 : Loc := ⟨0, 0, none⟩
  have hown : ∀ ρ' sh', OwnAt K ρ' sh' w l0 (.arr e z 0 [] true) := fun ρ' sh' => ⟨by simp, rfl, Nat.le_refl _, by simp [l0], .inl ⟨rfl, rfl⟩⟩
  have hg : Grow K ρ (H :: O) w [(nm, .arr e z 0 [] true)] K (upd ρ nm l0) w := by
    refine ⟨K.le_refl, fun _ _ _ h => .inl h, Nat.le_refl _, fun _ _ => rfl, ⟨rfl, rfl, rfl⟩, fun d n' h => ?_, hh.holds, fun n' ob e' => ?_, fun n1 o1 n2 o2 e1 e2 b1 b2 _ => ?_⟩
    · refine upd_other _ _ _ (h.imp id fun h e' => ?_)
      subst e'
      simp [look_cons] at h
    · obtain ⟨rfl, rfl⟩ := look_one e'
      rw [upd_same]
      exact ⟨hown _ _, fun hb => absurd rfl hb⟩
    · obtain ⟨rfl, rfl⟩ := look_one e1
      obtain ⟨rfl, rfl⟩ := look_one e2
      rfl
  obtain ⟨hI, hst⟩ := HInv.grow (S := H :: O) rfl hh (fun _ _ _ e => e) (fun n' h => by
    cases hl : look [(nm, Ob.arr e z 0 [] true)] n' with
    | none => exact absurd hl h
    | some ob => obtain ⟨rfl, rfl⟩ := look_one hl; exact hf) hg
  have hbn : nm ≠ b := fun e' => by subst e'; rw [hf] at hb; cases hb
  have hb' : look ((nm, Ob.arr e z 0 [] true) :: H) b = some (.box (pre ++ .i (.v (.slice none 0 0)) :: post)) := by rw [look_cons, if_neg hbn]; exact hb
  have hI2 : HInv c.E K (upd ρ nm l0) (((b, .box (pre ++ .osl 0 nm :: post)) :: (nm, .arr e z 0 [] true) :: H) :: O) w := by
    refine HInv.rebox hI hb' fun vs hv => hv.mid fun v h1 => ?_
    rw [inv_v h1]
    have := RepD.osl (K := K) (ρ := upd ρ nm l0) (sh := shape (((nm, Ob.arr e z 0 [] true) :: H) :: O)) (dep := 0) (nm := nm) (es := z) (len := 0) (by simp [shape, objAt, look_cons, Ob.sh])
    rw [upd_same] at this
    exact this
  have hsh : shape (((b, .box (pre ++ .osl 0 nm :: post)) :: (nm, .arr e z 0 [] true) :: H) :: O) = shape (((nm, Ob.arr e z 0 [] true) :: H) :: O) := shape_over hb' rfl
  refine ⟨K, upd ρ nm l0, hI2, hi.defers, hi.size, fun t' d e' => ?_⟩
  have := hi.slots _ _ e'
  rw [hS] at this
  show RepD K _ (shape (((b, .box (pre ++ .osl 0 nm :: post)) :: (nm, .arr e z 0 [] true) :: H) :: O)) _ _
  rw [hsh]
  exact this.stays hst
theorem wk_nilbox (b nm e z : Nat) (hS : s.S = H :: O) (hb : look H b = some (.box [.i (.v (.slice none 0 0))])) (hf : look H nm = none) : Wk c s { σ := s.σ, S := ((b, .box [.osl 0 nm]) :: (nm, .arr e z 0 [] true) :: H) :: O, n := s.n } := wk_nilbox2 b nm e z (pre := []) (post := []) hS hb hf
end
end Go.AI


namespace Go.AI
open Go.Proofs
set_option maxRecDepth 20000
/-- The type of an operation's result, by those of its arguments. -/
def kindOp (op : Int) (l : List Int) : Int :=
  if op = 0 ∨ op = 1 then 1 else
  if op = 2 ∨ op = 3 ∨ op = 4 ∨ op = 5 then (if l.all (· = 1) then 1 else 0) else
  if op = 6 ∨ op = 7 ∨ op = 8 ∨ op = 9 then (if l.all (· = 1) then 2 else 0) else
  if op = 10 ∨ op = 11 ∨ op = 12 then (if l.all (· = 2) then 2 else 0) else
  if op = 13 then (if l.getD 0 0 = 2 ∧ l.getD 1 0 = l.getD 2 0 then l.getD 1 0 else 0) else 0
mutual
def kindR : Ex → Int
  | .mk op _ _ args => match kindRs args with
    | some l => kindOp op l
    | none => 0
def kindRs : List Ex → Option (List Int)
  | [] => some []
  | e :: r => if kindR e = 0 then none else (kindRs r).map (kindR e :: ·)
end
theorem kindRs_len : ∀ {r : List Ex} {l : List Int}, kindRs r = some l → l.length = r.length
  | [], l, h => by simp only [kindRs, Option.some.injEq] at h; subst h; rfl
  | e :: r, l, h => by
    simp only [kindRs] at h
    split at h
    · cases h
    · cases hk : kindRs r with
      | none => simp [hk] at h
      | some l' =>
        simp only [hk, Option.map_some, Option.some.injEq] at h
        subst h
        simp [kindRs_len hk]
theorem ite_fst {p : Prop} [Decidable p] {a b : Int × Bool} (ha : a.1 ≤ 3) (hb : b.1 ≤ 3) : (if p then a else b).1 ≤ 3 := by
  split <;> assumption
theorem arity_le (op : Int) : (arity op).1 ≤ 3 := by
  unfold arity
  repeat' (refine ite_fst ?_ ?_)
  all_goals decide
theorem arity_cases {op : Int} (h : (arity op).2 = true) : (op = 0 ∨ op = 1) ∨ (op = 2 ∨ op = 3 ∨ op = 4 ∨ op = 5) ∨ (op = 6 ∨ op = 7 ∨ op = 8 ∨ op = 9) ∨ (op = 10 ∨ op = 11 ∨ op = 12) ∨ op = 13 := by
  by_cases hn : op = 0 ∨ op = 1 ∨ op = 2 ∨ op = 3 ∨ op = 4 ∨ op = 5 ∨ op = 6 ∨ op = 7 ∨ op = 8 ∨ op = 9 ∨ op = 10 ∨ op = 11 ∨ op = 12 ∨ op = 13
  · omega
  · unfold arity at h
    rw [if_neg (by omega), if_neg (by omega), if_neg (by omega), if_neg (by omega), if_neg (by omega), if_neg (by omega), if_neg (by omega), if_neg (by omega), if_neg (by omega), if_neg (by omega), if_neg (by omega), if_neg (by omega), if_neg (by omega), if_neg (by omega)] at h
    cases h
theorem formHead_zero {op v ix n : Int} {len : Nat} (h : formHead op v ix len n = 0) : (arity op).2 = true ∧ (len : Int) = (arity op).1 ∧ ¬ ((op ≠ 0 ∧ v ≠ 0) ∨ (op ≠ 1 ∧ ix ≠ 0)) ∧ ¬ ((op = 0 ∧ (65536 < v ∨ v < -65536)) ∨ (op = 1 ∧ (ix < 0 ∨ ix ≥ n))) := by
  unfold formHead at h
  by_cases h1 : (arity op).2 = false
  · rw [if_pos h1] at h; cases h
  rw [if_neg h1] at h
  by_cases h2 : (len : Int) ≠ (arity op).1
  · rw [if_pos h2] at h; cases h
  rw [if_neg h2] at h
  by_cases h3 : (op ≠ 0 ∧ v ≠ 0) ∨ (op ≠ 1 ∧ ix ≠ 0)
  · rw [if_pos h3] at h; cases h
  rw [if_neg h3] at h
  by_cases h4 : (op = 0 ∧ (65536 < v ∨ v < -65536)) ∨ (op = 1 ∧ (ix < 0 ∨ ix ≥ n))
  · rw [if_pos h4] at h; cases h
  exact ⟨by simpa using h1, by omega, h3, h4⟩
mutual
/-- Well-formed over n variables. -/
def wfE (n : Int) : Ex → Prop
  | .mk op v ix args => formHead op v ix args.length n = 0 ∧ wfEs n args
def wfEs (n : Int) : List Ex → Prop
  | [] => True
  | x :: xs => wfE n x ∧ wfEs n xs
end
theorem wfEs_mem {n : Int} : ∀ {l : List Ex}, wfEs n l → ∀ x ∈ l, wfE n x
  | [], _, x, h => by simp at h
  | y :: r, h, x, hx => by
    simp only [wfEs] at h
    rcases List.mem_cons.1 hx with rfl | hx
    · exact h.1
    · exact wfEs_mem h.2 x hx
mutual
theorem formR_wf : ∀ (x : Ex) (n lvl c : Int), (formR x n lvl c).1 = 0 → wfE n x
  | .mk op v ix args, n, lvl, c, h => by
    simp only [formR] at h
    split at h
    · cases h
    · split at h
      · rename_i h1; exact absurd h h1
      · rename_i h1
        exact ⟨by simpa using h1, formRs_wf args n _ _ h⟩
theorem formRs_wf : ∀ (l : List Ex) (n lvl c : Int), (formRs l n lvl c).1 = 0 → wfEs n l
  | [], n, lvl, c, _ => trivial
  | e :: r, n, lvl, c, h => by
    simp only [formRs] at h
    split at h
    · rename_i h1; exact absurd h h1
    · rename_i h1
      exact ⟨formR_wf e n lvl c (by simpa using h1), formRs_wf r n _ _ h⟩
end
theorem kindRs_take {args : List Ex} {i : Nat} {l : List Int} (h : i < args.length) (hl : kindRs (args.take i) = some l) : kindRs (args.take (i + 1)) = if kindR args[i] = 0 then none else some (l ++ [kindR args[i]]) := by
  induction args generalizing i l with
  | nil => simp at h
  | cons e r ih =>
    cases i with
    | zero =>
      simp only [List.take_zero, kindRs, Option.some.injEq] at hl
      subst hl
      simp [kindRs]
    | succ i =>
      simp only [List.take_succ_cons, kindRs] at hl ⊢
      split at hl
      · cases hl
      · rename_i h1
        rw [if_neg h1]
        cases hk : kindRs (r.take i) with
        | none => simp [hk] at hl
        | some l' =>
          simp only [hk, Option.map_some, Option.some.injEq] at hl
          subst hl
          rw [ih (by simpa using h) hk]
          simp only [List.getElem_cons_succ]
          split <;> simp
theorem kindRs_none {args : List Ex} {i : Nat} (hl : kindRs (args.take i) = none) : kindRs args = none := by
  induction args generalizing i with
  | nil => simpa using hl
  | cons e r ih =>
    cases i with
    | zero => simp [kindRs] at hl
    | succ i =>
      simp only [List.take_succ_cons, kindRs] at hl ⊢
      split at hl
      · rename_i h1; rw [if_pos h1]
      · rename_i h1
        rw [if_neg h1]
        cases hk : kindRs (r.take i) with
        | none => rw [ih hk]; rfl
        | some l => simp [hk] at hl
theorem oints_app (l : List Int) (k : Int) : Ob.arr 3 1 (l.length + 1) ((l.map fun x => [vi x]) ++ [[vi k]]) true = oints (l ++ [k]) := by
  simp
theorem kind85 (n : Int) : ∀ (N : Nat) (x : Ex), SizeOf.sizeOf x < N → wfE n x → ∀ O, ASpec Tryz.prog 104 [exD x] O (ii (kindR x)) [] O := by
  intro N
  induction N with
  | zero => intro x h; omega
  | succ N ihN =>
    intro x hs hwf O
    obtain ⟨op, v, ix, args⟩ := x
    simp only [wfE] at hwf
    obtain ⟨hform, hwf⟩ := hwf
    obtain ⟨ha, hb, -, -⟩ := formHead_zero hform
    have hch : ∀ e ∈ args, ∀ O, ASpec Tryz.prog 104 [exD e] O (ii (kindR e)) [] O := by
      intro e he O
      refine ihN e ?_ (wfEs_mem hwf e he) O
      have := List.sizeOf_lt_of_mem he
      simp only [Ex.mk.sizeOf_spec] at hs
      omega
    have hlen3 : args.length ≤ 3 := by have := arity_le op; omega
    have hlen : args.length ≤ max63 := by simp only [max63]; omega
    clear ihN hs
    generalize hR : kindR (.mk op v ix args) = R
    simp only [kindR] at hR
    refine aspec_stop [11] Tk Tryz.func104 rfl Tryz.call104 Tryz.ntmps104 (Nat.le_of_ble_eq_true rfl) fun E => ?_
    refine g_run Tk Tryz.func104 ?_
    apply join_q (P := fun l => kindRs args = some l) (s6 := fun l => { σ := [(1, .own 0 1 0 0), (3, .own 0 3 0 0), (7, .fn (.func 119) [] [.own 0 3 0 0])], S := [(3, .box [ints l]), (1, .box [ii op, ii v, ii ix, exs args])] :: O, n := 68 })
    · intro J
      refine g_loop ?_
      refine rch_wk (wk_nilbox 3 22 3 1 rfl rfl rfl) ?_
      refine rch_loop2 (fun x : Nat × List Int => [(1, .own 0 1 0 0), (3, .own 0 3 0 0), (9, exs args), (10, ii args.length), (11, ii x.1)]) (fun x => [(3, .box [.osl 0 22]), (22, oints x.2), (1, .box [ii op, ii v, ii ix, exs args])]) (fun _ => O) 68
        (fun x => x.1 ≤ args.length ∧ kindRs (args.take x.1) = some x.2) (fun x => args.length - x.1) (0, []) ⟨Nat.zero_le _, rfl⟩ ⟨rfl, rfl, rfl, rfl, rfl, trivial⟩ rfl ⟨rfl, rfl, rfl, trivial⟩ rfl rfl ?_
      rintro ⟨i, l⟩ ⟨hi, hno⟩ ih
      simp only at hi hno
      refine g_run Tk Tryz.func104 ?_
      first | refine g_cnd Tk Tryz.func104 rfl (fun h5 => ?_) (fun h5 => ?_) | refine g_know Tk Tryz.func104 rfl (fun h5 => ?_) (fun h5 => ?_) | refine s_know Tk (fun h5 => ?_) (fun h5 => ?_)
      · have h5 : i < args.length := by simpa using h5
        have hm := List.getElem_mem h5
        have hg := exIs_get h5
        have ht := kindRs_take h5 hno
        have hll := kindRs_len hno
        simp only [List.length_take, Nat.min_eq_left hi] at hll
        generalize args[i] = e at hm hg ht
        have hce := fun O => hch e hm O
        obtain ⟨eo, ev, ei, ea⟩ := e
        simp only [exI] at hg
        first | refine g_need Tk Tryz.func104 (by omega) ?_ | refine s_need Tk (by omega) ?_
        first | refine g_elem Tk Tryz.func104 (hg) ?_ | refine s_elem Tk (hg) ?_
        first | refine g_call Tk Tryz.func104 (hce _) rfl rfl rfl rfl rfl ?_ | refine s_call Tk (hce _) rfl rfl rfl ?_
        generalize kindR (.mk eo ev ei ea) = k at ht
        first | refine g_cnd Tk Tryz.func104 rfl (fun h6 => ?_) (fun h6 => ?_) | refine g_know Tk Tryz.func104 rfl (fun h6 => ?_) (fun h6 => ?_) | refine s_know Tk (fun h6 => ?_) (fun h6 => ?_)
        · have h6 := beqT h6
          rw [if_pos h6] at ht
          have := kindRs_none ht
          rw [this] at hR
          subst hR
          refine g_ret Tk (r := ii 0) rfl rfl rfl trivial rfl rfl ?_
          rfl
        · have h6 := beqF h6
          rw [if_neg h6] at ht
          first | refine g_need Tk Tryz.func104 (by exact ⟨by show (l.length + 1) * 8 ≤ 140737488355328; omega, by show l.length + 1 ≤ 9223372036854775807; omega⟩) ?_ | refine s_need Tk (by exact ⟨by show (l.length + 1) * 8 ≤ 140737488355328; omega, by show l.length + 1 ≤ 9223372036854775807; omega⟩) ?_
          refine g_loop ?_
          refine ih (i + 1, l ++ [k]) _ _ ⟨h5, ht⟩ (by simp only; omega) ⟨rfl, rfl, rfl, rfl, congrArg ii (wsucc h5 hlen), trivial⟩ rfl ⟨rfl, congrArg some (oints_app l k), rfl, trivial⟩ rfl rfl
      · have h5 : args.length ≤ i := by simpa using h5
        rw [List.take_of_length_le h5] at hno
        refine g_stop ?_
        refine rch_wk (wk_freeze 22 rfl rfl) ?_
        refine rch_wk (wk_imm rfl) ?_
        refine rch_cut2 (l := [(1, .own 0 1 0 0), (3, .own 0 3 0 0), (7, .fn (.func 119) [] [.own 0 3 0 0])]) (Hv := [(3, .box [ints l]), (1, .box [ii op, ii v, ii ix, exs args])]) ⟨rfl, rfl, rfl, trivial⟩ rfl ⟨rfl, rfl, trivial⟩ rfl rfl (J l hno)
    · intro l hl
      have hll := kindRs_len hl
      rw [hl] at hR
      simp only at hR
      have hlm : l.length ≤ max63 := by simp only [max63]; omega
      refine g_run Tk Tryz.func104 ?_
      refine g_go Tk Tryz.func104 ?_
      have hc := arity_cases ha
      have k1 := fun O d nm (ho : objAt O d nm = some (.box [ints l])) => kindb93 O 1 l d nm hlm ho
      have k2 := fun O d nm (ho : objAt O d nm = some (.box [ints l])) => kindb93 O 2 l d nm hlm ho
      have g1 : (op = 0 ∨ op = 1) → R = 1 := fun h => by rw [← hR]; unfold kindOp; rw [if_pos h]
      have g2 : (op = 2 ∨ op = 3 ∨ op = 4 ∨ op = 5) → R = if l.all (· = 1) then 1 else 0 := fun h => by rw [← hR]; unfold kindOp; rw [if_neg (by omega), if_pos h]
      have g3 : (op = 6 ∨ op = 7 ∨ op = 8 ∨ op = 9) → R = if l.all (· = 1) then 2 else 0 := fun h => by rw [← hR]; unfold kindOp; rw [if_neg (by omega), if_neg (by omega), if_pos h]
      have g4 : (op = 10 ∨ op = 11 ∨ op = 12) → R = if l.all (· = 2) then 2 else 0 := fun h => by rw [← hR]; unfold kindOp; rw [if_neg (by omega), if_neg (by omega), if_neg (by omega), if_pos h]
      have g5 : op = 13 → R = if l.getD 0 0 = 2 ∧ l.getD 1 0 = l.getD 2 0 then l.getD 1 0 else 0 := fun h => by rw [← hR]; unfold kindOp; rw [if_neg (by omega), if_neg (by omega), if_neg (by omega), if_neg (by omega), if_pos h]
      clear hR hform hch
      rcases hc with hc | hc | hc | hc | hc
      · have := g1 hc
        subst this
        clear g1 g2 g3 g4 g5
        rcases hc with rfl | rfl
        all_goals
          repeat (first | refine g_cnd Tk Tryz.func104 rfl (fun _ => ?_) (fun h => absurd h (by decide)) | refine g_cnd Tk Tryz.func104 rfl (fun h => absurd h (by decide)) (fun _ => ?_) | refine g_know Tk Tryz.func104 rfl (fun _ => ?_) (fun h => absurd h (by decide)) | refine g_know Tk Tryz.func104 rfl (fun h => absurd h (by decide)) (fun _ => ?_) | refine s_know Tk (fun _ => ?_) (fun h => absurd h (by decide)) | refine s_know Tk (fun h => absurd h (by decide)) (fun _ => ?_))
          refine g_ret Tk (r := ii 1) rfl rfl rfl trivial rfl rfl ?_
          rfl
      · have := g2 hc
        subst this
        clear g1 g2 g3 g4 g5
        rcases hc with rfl | rfl | rfl | rfl
        all_goals
          repeat (first | refine g_cnd Tk Tryz.func104 rfl (fun _ => ?_) (fun h => absurd h (by decide)) | refine g_cnd Tk Tryz.func104 rfl (fun h => absurd h (by decide)) (fun _ => ?_) | refine g_know Tk Tryz.func104 rfl (fun _ => ?_) (fun h => absurd h (by decide)) | refine g_know Tk Tryz.func104 rfl (fun h => absurd h (by decide)) (fun _ => ?_) | refine s_know Tk (fun _ => ?_) (fun h => absurd h (by decide)) | refine s_know Tk (fun h => absurd h (by decide)) (fun _ => ?_))
          first | refine g_call Tk Tryz.func104 (k1 _ _ _ rfl) rfl rfl rfl rfl rfl ?_ | refine s_call Tk (k1 _ _ _ rfl) rfl rfl rfl ?_
          first | refine g_cnd Tk Tryz.func104 rfl (fun h1 => ?_) (fun h1 => ?_) | refine g_know Tk Tryz.func104 rfl (fun h1 => ?_) (fun h1 => ?_) | refine s_know Tk (fun h1 => ?_) (fun h1 => ?_)
          · refine g_ret Tk (r := ii 1) rfl rfl rfl trivial rfl rfl ?_
            rw [if_pos h1]
          · repeat (first | refine g_cnd Tk Tryz.func104 rfl (fun _ => ?_) (fun h => absurd h (by decide)) | refine g_cnd Tk Tryz.func104 rfl (fun h => absurd h (by decide)) (fun _ => ?_) | refine g_know Tk Tryz.func104 rfl (fun _ => ?_) (fun h => absurd h (by decide)) | refine g_know Tk Tryz.func104 rfl (fun h => absurd h (by decide)) (fun _ => ?_) | refine s_know Tk (fun _ => ?_) (fun h => absurd h (by decide)) | refine s_know Tk (fun h => absurd h (by decide)) (fun _ => ?_))
            refine g_ret Tk (r := ii 0) rfl rfl rfl trivial rfl rfl ?_
            rw [h1]; rfl
      · have := g3 hc
        subst this
        clear g1 g2 g3 g4 g5
        rcases hc with rfl | rfl | rfl | rfl
        all_goals
          repeat (first | refine g_cnd Tk Tryz.func104 rfl (fun _ => ?_) (fun h => absurd h (by decide)) | refine g_cnd Tk Tryz.func104 rfl (fun h => absurd h (by decide)) (fun _ => ?_) | refine g_know Tk Tryz.func104 rfl (fun _ => ?_) (fun h => absurd h (by decide)) | refine g_know Tk Tryz.func104 rfl (fun h => absurd h (by decide)) (fun _ => ?_) | refine s_know Tk (fun _ => ?_) (fun h => absurd h (by decide)) | refine s_know Tk (fun h => absurd h (by decide)) (fun _ => ?_))
          first | refine g_call Tk Tryz.func104 (k1 _ _ _ rfl) rfl rfl rfl rfl rfl ?_ | refine s_call Tk (k1 _ _ _ rfl) rfl rfl rfl ?_
          first | refine g_cnd Tk Tryz.func104 rfl (fun h1 => ?_) (fun h1 => ?_) | refine g_know Tk Tryz.func104 rfl (fun h1 => ?_) (fun h1 => ?_) | refine s_know Tk (fun h1 => ?_) (fun h1 => ?_)
          · refine g_ret Tk (r := ii 2) rfl rfl rfl trivial rfl rfl ?_
            rw [if_pos h1]
          · repeat (first | refine g_cnd Tk Tryz.func104 rfl (fun _ => ?_) (fun h => absurd h (by decide)) | refine g_cnd Tk Tryz.func104 rfl (fun h => absurd h (by decide)) (fun _ => ?_) | refine g_know Tk Tryz.func104 rfl (fun _ => ?_) (fun h => absurd h (by decide)) | refine g_know Tk Tryz.func104 rfl (fun h => absurd h (by decide)) (fun _ => ?_) | refine s_know Tk (fun _ => ?_) (fun h => absurd h (by decide)) | refine s_know Tk (fun h => absurd h (by decide)) (fun _ => ?_))
            refine g_ret Tk (r := ii 0) rfl rfl rfl trivial rfl rfl ?_
            rw [h1]; rfl
      · have := g4 hc
        subst this
        clear g1 g2 g3 g4 g5
        rcases hc with rfl | rfl | rfl
        all_goals
          repeat (first | refine g_cnd Tk Tryz.func104 rfl (fun _ => ?_) (fun h => absurd h (by decide)) | refine g_cnd Tk Tryz.func104 rfl (fun h => absurd h (by decide)) (fun _ => ?_) | refine g_know Tk Tryz.func104 rfl (fun _ => ?_) (fun h => absurd h (by decide)) | refine g_know Tk Tryz.func104 rfl (fun h => absurd h (by decide)) (fun _ => ?_) | refine s_know Tk (fun _ => ?_) (fun h => absurd h (by decide)) | refine s_know Tk (fun h => absurd h (by decide)) (fun _ => ?_))
          first | refine g_call Tk Tryz.func104 (k2 _ _ _ rfl) rfl rfl rfl rfl rfl ?_ | refine s_call Tk (k2 _ _ _ rfl) rfl rfl rfl ?_
          first | refine g_cnd Tk Tryz.func104 rfl (fun h1 => ?_) (fun h1 => ?_) | refine g_know Tk Tryz.func104 rfl (fun h1 => ?_) (fun h1 => ?_) | refine s_know Tk (fun h1 => ?_) (fun h1 => ?_)
          · refine g_ret Tk (r := ii 2) rfl rfl rfl trivial rfl rfl ?_
            rw [if_pos h1]
          · repeat (first | refine g_cnd Tk Tryz.func104 rfl (fun _ => ?_) (fun h => absurd h (by decide)) | refine g_cnd Tk Tryz.func104 rfl (fun h => absurd h (by decide)) (fun _ => ?_) | refine g_know Tk Tryz.func104 rfl (fun _ => ?_) (fun h => absurd h (by decide)) | refine g_know Tk Tryz.func104 rfl (fun h => absurd h (by decide)) (fun _ => ?_) | refine s_know Tk (fun _ => ?_) (fun h => absurd h (by decide)) | refine s_know Tk (fun h => absurd h (by decide)) (fun _ => ?_))
            refine g_ret Tk (r := ii 0) rfl rfl rfl trivial rfl rfl ?_
            rw [h1]; rfl
      · have := g5 hc
        subst this
        clear g1 g2 g3 g4 g5
        subst hc
        have h3 : l.length = 3 := by rw [hll]; have : (args.length : Int) = 3 := hb; omega
        obtain ⟨a, l, rfl⟩ : ∃ a r, l = a :: r := by cases l with | nil => simp at h3 | cons a r => exact ⟨_, _, rfl⟩
        obtain ⟨b, l, rfl⟩ : ∃ a r, l = a :: r := by cases l with | nil => simp at h3 | cons a r => exact ⟨_, _, rfl⟩
        obtain ⟨e, l, rfl⟩ : ∃ a r, l = a :: r := by cases l with | nil => simp at h3 | cons a r => exact ⟨_, _, rfl⟩
        obtain rfl : l = [] := List.eq_nil_of_length_eq_zero (by simpa using h3)
        repeat (first | refine g_cnd Tk Tryz.func104 rfl (fun _ => ?_) (fun h => absurd h (by decide)) | refine g_cnd Tk Tryz.func104 rfl (fun h => absurd h (by decide)) (fun _ => ?_) | refine g_know Tk Tryz.func104 rfl (fun _ => ?_) (fun h => absurd h (by decide)) | refine g_know Tk Tryz.func104 rfl (fun h => absurd h (by decide)) (fun _ => ?_) | refine s_know Tk (fun _ => ?_) (fun h => absurd h (by decide)) | refine s_know Tk (fun h => absurd h (by decide)) (fun _ => ?_))
        refine g_drawn Tk Tryz.func104 mixedT rfl ?_
        first | refine g_need Tk Tryz.func104 (by simp) ?_ | refine s_need Tk (by simp) ?_
        first | refine g_elem Tk Tryz.func104 (rfl) ?_ | refine s_elem Tk (rfl) ?_
        first | refine g_cnd Tk Tryz.func104 rfl (fun h1 => ?_) (fun h1 => ?_) | refine g_know Tk Tryz.func104 rfl (fun h1 => ?_) (fun h1 => ?_) | refine s_know Tk (fun h1 => ?_) (fun h1 => ?_)
        · have h1 := beqT h1
          first | refine g_need Tk Tryz.func104 (by simp) ?_ | refine s_need Tk (by simp) ?_
          first | refine g_elem Tk Tryz.func104 (rfl) ?_ | refine s_elem Tk (rfl) ?_
          first | refine g_need Tk Tryz.func104 (by simp) ?_ | refine s_need Tk (by simp) ?_
          first | refine g_elem Tk Tryz.func104 (rfl) ?_ | refine s_elem Tk (rfl) ?_
          refine e_done Tk Tryz.func104 (by kernel_rfl) ?_
          first | refine g_cnd Tk Tryz.func104 rfl (fun h2 => ?_) (fun h2 => ?_) | refine g_know Tk Tryz.func104 rfl (fun h2 => ?_) (fun h2 => ?_) | refine s_know Tk (fun h2 => ?_) (fun h2 => ?_)
          · have h2 := beqT h2
            first | refine g_need Tk Tryz.func104 (by simp) ?_ | refine s_need Tk (by simp) ?_
            first | refine g_elem Tk Tryz.func104 (rfl) ?_ | refine s_elem Tk (rfl) ?_
            refine g_ret Tk (r := ii b) rfl rfl rfl trivial rfl rfl ?_
            simp [h1, h2]
          · have h2 := beqF h2
            refine g_ret Tk (r := ii 0) rfl rfl rfl trivial rfl rfl ?_
            simp [h1, h2]
        · have h1 := beqF h1
          refine e_done Tk Tryz.func104 (by kernel_rfl) ?_
          repeat (first | refine g_cnd Tk Tryz.func104 rfl (fun _ => ?_) (fun h => absurd h (by decide)) | refine g_cnd Tk Tryz.func104 rfl (fun h => absurd h (by decide)) (fun _ => ?_) | refine g_know Tk Tryz.func104 rfl (fun _ => ?_) (fun h => absurd h (by decide)) | refine g_know Tk Tryz.func104 rfl (fun h => absurd h (by decide)) (fun _ => ?_) | refine s_know Tk (fun _ => ?_) (fun h => absurd h (by decide)) | refine s_know Tk (fun h => absurd h (by decide)) (fun _ => ?_))
          refine g_ret Tk (r := ii 0) rfl rfl rfl trivial rfl rfl ?_
          simp [h1]
end Go.AI
