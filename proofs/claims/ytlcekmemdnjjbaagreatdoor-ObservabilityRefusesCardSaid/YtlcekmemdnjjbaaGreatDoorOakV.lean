/- The layer of abstract runs, part 22. -/
import Derived.Test.YtlcekmemdnjjbaaGreatDoorOakU
import Derived.KernelRfl
set_option linter.unusedSimpArgs false
set_option linter.unusedVariables false
set_option linter.all false

namespace Go.AI
open Go.Proofs
set_option maxRecDepth 20000
theorem mixedT : Tryz.prog.follows .mixedOrders = true := rfl
theorem isNaN91 (O : List Heap) (a : Int) : ASpec Tryz.prog 189 [ii a] O (bb false) [] O := by
  refine aspec_intro Tk Tryz.func189 rfl Tryz.call189 Tryz.ntmps189 (Nat.le_of_ble_eq_true rfl) fun E => ?_
  refine rch_run Tk Tryz.func189 ?_
  refine m_ret' (hT := Tk) (r := bb _) rfl rfl rfl trivial rfl rfl ?_
  simp
theorem isNaN83 (O : List Heap) (a : Int) : ASpec Tryz.prog 159 [ii a] O (bb false) [] O := by
  refine aspec_intro Tk Tryz.func159 rfl Tryz.call159 Tryz.ntmps159 (Nat.le_of_ble_eq_true rfl) fun E => ?_
  refine rch_run Tk Tryz.func159 ?_
  refine m_ret' (hT := Tk) (r := bb _) rfl rfl rfl trivial rfl rfl ?_
  simp
theorem less82 (O : List Heap) (a b : Int) : ASpec Tryz.prog 158 [ii a, ii b] O (bb (decide (a < b))) [] O := by
  refine aspec_intro Tk Tryz.func158 rfl Tryz.call158 Tryz.ntmps158 (Nat.le_of_ble_eq_true rfl) fun E => ?_
  refine rch_run Tk Tryz.func158 ?_
  refine m_call Tk Tryz.func158 (isNaN91 _ a) rfl rfl rfl rfl rfl ?_
  refine m_know Tk Tryz.func158 rfl (fun h1 => by cases h1) (fun _ => ?_)
  refine m_know Tk Tryz.func158 rfl (fun h1 => by cases h1) (fun _ => ?_)
  refine m_ret' (hT := Tk) (r := bb _) rfl rfl rfl trivial rfl rfl ?_
  rfl
end Go.AI


namespace Go.AI
open Go.Proofs
set_option maxRecDepth 20000
theorem mid64 {a b : Nat} (ha : a ≤ max63) (hb : b ≤ max63) : IntKind.i64.wrap (IntKind.u64.wrap (IntKind.i64.wrap ((a : Int) + b)) / 2 ^ (1 : Int).toNat) = ((a + b) / 2 : Nat) := by
  simp only [max63] at ha hb
  have h1 : IntKind.u64.wrap (IntKind.i64.wrap ((a : Int) + b)) = (a : Int) + b := by
    simp only [IntKind.wrap, IntKind.bits, IntKind.signed]
    simp
    omega
  rw [h1, w64]
  · simp
  · simp; omega
  · simp; omega
def lows (l : List Int) (x : Int) : Nat := (l.filter (· < x)).length
theorem lows_eq {l : List Int} {x : Int} {i : Nat} (hi : i ≤ l.length) (h1 : ∀ k (h : k < l.length), k < i → l[k] < x) (h2 : ∀ k (h : k < l.length), i ≤ k → x ≤ l[k]) : lows l x = i := by
  have e : l = l.take i ++ l.drop i := (List.take_append_drop i l).symm
  unfold lows
  rw [e, List.filter_append]
  have a1 : (l.take i).filter (fun y => decide (y < x)) = l.take i := by
    rw [List.filter_eq_self]
    intro y hy
    obtain ⟨k, hk, rfl⟩ := List.getElem_of_mem hy
    simp only [List.length_take] at hk
    have := h1 k (by omega) (by omega)
    simpa using this
  have a2 : (l.drop i).filter (fun y => decide (y < x)) = [] := by
    rw [List.filter_eq_nil_iff]
    intro y hy
    obtain ⟨k, hk, rfl⟩ := List.getElem_of_mem hy
    simp only [List.length_drop] at hk
    have := h2 (i + k) (by omega) (by omega)
    simpa using this
  rw [a1, a2]
  simp
  omega
theorem bsearch65 (O : List Heap) (l : List Int) (x : Int) (hl : l.length ≤ max63) (hs : l.Pairwise (· < ·)) : ASpec Tryz.prog 109 [ints l, ii x] O (.tup [ii (lows l x), bb (decide (x ∈ l))]) [] O := by
  have hsort : ∀ i j (hi : i < l.length) (hj : j < l.length), i < j → l[i] < l[j] := fun i j hi hj h => List.pairwise_iff_getElem.1 hs i j hi hj h
  refine aspec_intro Tk Tryz.func109 rfl Tryz.call109 Tryz.ntmps109 (Nat.le_of_ble_eq_true rfl) fun E => ?_
  refine rch_run Tk Tryz.func109 ?_
  refine rch_loop2 (fun p : Nat × Nat => [(0, ints l), (1, ii x), (6, ii l.length), (7, ii p.1), (8, ii p.2)]) (fun _ => []) (fun _ => O) 54
    (fun p => p.1 ≤ p.2 ∧ p.2 ≤ l.length ∧ (∀ k (h : k < l.length), k < p.1 → l[k] < x) ∧ ∀ k (h : k < l.length), p.2 ≤ k → x ≤ l[k]) (fun p => p.2 - p.1) (0, l.length)
    ⟨Nat.zero_le _, Nat.le_refl _, fun k h h' => by simp at h', fun k h h' => by simp at h'; omega⟩ ⟨rfl, rfl, rfl, rfl, rfl, trivial⟩ rfl trivial rfl rfl ?_
  rintro ⟨i, j⟩ ⟨hij, hj, hlo, hhi⟩ ih
  simp only at hij hj hlo hhi
  have hlj : j ≤ max63 := Nat.le_trans hj hl
  refine rch_run Tk Tryz.func109 ?_
  refine m_cnd Tk Tryz.func109 rfl (fun h1 => ?_) (fun h1 => ?_)
  · have h1 : i < j := by simpa using h1
    refine m_need Tk Tryz.func109 (by simp [IntKind.bits]) ?_
    have hm := mid64 (Nat.le_trans hij hlj) hlj
    have hmj : (i + j) / 2 < j := by omega
    refine m_need Tk Tryz.func109 (by rw [hm]; omega) ?_
    refine m_elem Tk Tryz.func109 (d := [vi (l[(i + j) / 2]'(by omega))]) (by rw [hm]; exact get_mapZ (f := fun x => [vi x]) (by omega)) ?_
    refine m_call Tk Tryz.func109 (less82 _ _ _) rfl rfl rfl rfl rfl ?_
    refine m_cnd Tk Tryz.func109 rfl (fun h2 => ?_) (fun h2 => ?_)
    · have h2 : l[(i + j) / 2] < x := by simpa using h2
      refine ih ((i + j) / 2 + 1, j) _ _ ⟨by show (i + j) / 2 + 1 ≤ j; omega, hj, fun k h h' => ?_, hhi⟩ (by simp only; omega) ⟨rfl, rfl, rfl, ?_, rfl, trivial⟩ rfl trivial rfl rfl
      · by_cases e : k = (i + j) / 2
        · subst e; exact h2
        · have h' : k < (i + j) / 2 + 1 := h'
          have := hsort k ((i + j) / 2) h (by omega) (by omega)
          omega
      · show D.i (.v (.int .i64 _)) = _
        rw [hm]
        exact congrArg ii (wsucc (n := j) (by omega) hlj)
    · have h2 : x ≤ l[(i + j) / 2] := by simpa using h2
      refine ih (i, (i + j) / 2) _ _ ⟨by show i ≤ (i + j) / 2; omega, by show (i + j) / 2 ≤ l.length; omega, hlo, fun k h h' => ?_⟩ (by simp only; omega) ⟨rfl, rfl, rfl, rfl, ?_, trivial⟩ rfl trivial rfl rfl
      · have h' : (i + j) / 2 ≤ k := h'
        by_cases e : k = (i + j) / 2
        · subst e; exact h2
        · have := hsort ((i + j) / 2) k (by omega) h (by omega)
          omega
      · show D.i (.v (.int .i64 _)) = _
        rw [hm]
  · have h1 : j ≤ i := by simpa using h1
    have hij : i = j := by omega
    subst hij
    have hlow : lows l x = i := lows_eq hj hlo hhi
    rw [hlow]
    have hnot : ∀ (hi : i < l.length), l[i] ≠ x → x ∉ l := by
      intro hi hne hm
      obtain ⟨k, hk, e⟩ := List.getElem_of_mem hm
      by_cases h3 : k < i
      · have := hlo k hk h3; omega
      · by_cases h4 : k = i
        · subst h4; exact hne e
        · have := hsort i k hi hk (by omega)
          have := hhi i hi (Nat.le_refl _)
          omega
    refine m_know Tk Tryz.func109 rfl (fun h1 => ?_) (fun h1 => ?_)
    · have h1 : i < l.length := by simpa using h1
      refine m_need Tk Tryz.func109 (by omega) ?_
      refine m_elem Tk Tryz.func109 (get_mapZ h1) ?_
      refine m_know Tk Tryz.func109 rfl (fun h2 => ?_) (fun h2 => ?_)
      · have h2 : l[i] = x := by simpa using h2
        refine m_ret' (hT := Tk) (r := .tup [ii _, bb _]) rfl rfl rfl trivial rfl rfl ?_
        have : x ∈ l := by rw [← h2]; simp
        simp [this]
      · have h2 : l[i] ≠ x := by simpa using h2
        refine m_need Tk Tryz.func109 (by omega) ?_
        refine m_elem Tk Tryz.func109 (get_mapZ h1) ?_
        refine m_call Tk Tryz.func109 (isNaN83 _ _) rfl rfl rfl rfl rfl ?_
        refine m_know Tk Tryz.func109 rfl (fun h1 => by cases h1) (fun _ => ?_)
        refine m_ret' (hT := Tk) (r := .tup [ii _, bb _]) rfl rfl rfl trivial rfl rfl ?_
        simp [hnot h1 h2]
    · have h1 : l.length ≤ i := by simpa using h1
      refine m_ret' (hT := Tk) (r := .tup [ii _, bb _]) rfl rfl rfl trivial rfl rfl ?_
      have : x ∉ l := by
        intro hm
        obtain ⟨k, hk, e⟩ := List.getElem_of_mem hm
        have := hlo k hk (by omega)
        omega
      simp [this]
theorem contains49 (O : List Heap) (l : List Int) (x : Int) (hl : l.length ≤ max63) (hs : l.Pairwise (· < ·)) : ASpec Tryz.prog 59 [ints l, ii x] O (bb (decide (x ∈ l))) [] O := by
  refine aspec_intro Tk Tryz.func59 rfl Tryz.call59 Tryz.ntmps59 (Nat.le_of_ble_eq_true rfl) fun E => ?_
  refine rch_run Tk Tryz.func59 ?_
  refine m_call Tk Tryz.func59 (bsearch65 _ l x hl hs) rfl rfl rfl rfl rfl ?_
  refine m_ret' (hT := Tk) (r := bb _) rfl rfl rfl trivial rfl rfl ?_
  rfl
end Go.AI


namespace Go.AI
open Go.Proofs
set_option maxRecDepth 20000
abbrev big : Nat := 140737488355328
abbrev oints (l : List Int) : Ob := .arr 3 1 l.length (l.map fun x => [vi x]) true
theorem ret_osl (H : Heap) (nm : Nat) (ob : Ob) : D.ret H [(nm, ob)] (.osl 0 nm) = .osl 0 nm := by
  simp [D.ret, D.ret2, D.ret1, memH, look_cons]
theorem takes_one (nm : Nat) (ob ob' : Ob) (Hr : Heap) (h : ob' = ob.ret [(nm, ob)] Hr) : takesB [(nm, ob)] Hr [(nm, ob')] := ⟨⟨ob, by simp [look], h⟩, trivial⟩
theorem clone57 (nm : Nat) (O : List Heap) (l : List Int) (hl : l.length * 8 ≤ big) : ASpec Tryz.prog 77 [ints l] O (.osl 0 nm) [(nm, oints l)] O := by
  refine aspec_intro Tk Tryz.func77 rfl Tryz.call77 Tryz.ntmps77 (Nat.le_of_ble_eq_true rfl) fun E => ?_
  refine rch_run Tk Tryz.func77 ?_
  refine m_anyb Tk Tryz.func77 rfl rfl fun b hb => ?_
  refine m_cnd Tk Tryz.func77 rfl (fun h1 => ?_) (fun h1 => ?_)
  · have hl0 : l = [] := List.eq_nil_of_length_eq_zero (hb h1)
    subst hl0
    refine ret_wk (wk_nil 2 nm 3 1 rfl rfl rfl) ?_
    exact m_ret' (hT := Tk) (r := .osl 0 nm) rfl rfl rfl (takes_one _ _ _ _ rfl) (ret_osl _ _ _) rfl rfl
  · refine m_need Tk Tryz.func77 ⟨?_, ?_⟩ ?_
    · show (0 + l.length) * 8 ≤ 140737488355328
      simp only [big] at hl; omega
    · simp only [big] at hl; omega
    refine ret_wk (wk_cut (l := [(2, .osl 0 7)]) (Hv := [(7, .arr 3 1 (0 + l.length) ([] ++ l.map fun x => [vi x]) true)]) ⟨rfl, trivial⟩ rfl ⟨rfl, trivial⟩ rfl rfl) ?_
    refine ret_wk (wk_rename 7 nm rfl rfl) ?_
    refine m_ret' (hT := Tk) (r := .osl 0 nm) rfl rfl rfl (takes_one _ _ _ _ ?_) (ret_osl _ _ _) rfl rfl
    rw [Nat.zero_add]
    rfl
theorem equal47 (O : List Heap) (l r : List Int) (hl : l.length ≤ max63) : ASpec Tryz.prog 41 [ints l, ints r] O (bb (decide (l = r))) [] O := by
  refine aspec_intro Tk Tryz.func41 rfl Tryz.call41 Tryz.ntmps41 (Nat.le_of_ble_eq_true rfl) fun E => ?_
  refine rch_run Tk Tryz.func41 ?_
  refine m_cnd Tk Tryz.func41 rfl (fun h1 => ?_) (fun h1 => ?_)
  · refine m_ret' (hT := Tk) (r := bb _) rfl rfl rfl trivial rfl rfl ?_
    have h1 : (l.length : Int) ≠ r.length := by simpa using h1
    have : l ≠ r := fun e => h1 (by rw [e])
    simp [this]
  have hlen : l.length = r.length := by
    have : (l.length : Int) = r.length := by simpa using h1
    omega
  refine rch_loop_ind (fun i : Nat => [(0, ints l), (1, ints r), (4, bb false), (12, ii l.length), (13, ii i)]) (fun _ => [] :: O) 26 (fun i => i ≤ l.length ∧ ∀ j (h : j < l.length), j < i → l[j] = r[j]) (fun i => l.length - i) 0 ⟨Nat.zero_le _, fun j h h' => by omega⟩ ⟨rfl, rfl, rfl, rfl, rfl, trivial⟩ rfl rfl ?_
  intro i ⟨hi, hno⟩ ih
  refine rch_run Tk Tryz.func41 ?_
  refine m_cnd Tk Tryz.func41 rfl (fun h1 => ?_) (fun h1 => ?_)
  · have h1 : i < l.length := by simpa using h1
    have h1' : i < r.length := by omega
    refine m_drawn Tk Tryz.func41 mixedT rfl ?_
    refine d_need Tk (by omega) ?_
    refine d_elem Tk (get_mapZ h1) ?_
    refine d_need Tk (by omega) ?_
    refine d_elem Tk (get_mapZ h1') ?_
    refine d_done Tk Tryz.func41 (by kernel_rfl) ?_
    refine m_cnd Tk Tryz.func41 rfl (fun h2 => ?_) (fun h2 => ?_)
    · refine m_ret' (hT := Tk) (r := bb _) rfl rfl rfl trivial rfl rfl ?_
      have h2 : l[i] ≠ r[i] := by simpa using h2
      have : l ≠ r := fun e => h2 (by subst e; rfl)
      simp [this]
    · have h2 : l[i] = r[i] := by simpa using h2
      refine ih (i + 1) _ ?_ ?_ ⟨rfl, rfl, rfl, rfl, congrArg ii (wsucc h1 hl), trivial⟩ rfl rfl
      · refine ⟨h1, fun j h h' => ?_⟩
        by_cases e : j = i
        · subst e; exact h2
        · exact hno j h (by omega)
      · omega
  · have h1 : l.length ≤ i := by simpa using h1
    refine m_ret' (hT := Tk) (r := bb _) rfl rfl rfl trivial rfl rfl ?_
    have : l = r := List.ext_getElem hlen fun j h h' => hno j h (by omega)
    simp [this]
def checkSet (n : Int) : List Int → Option Int → Int
  | [], _ => 0
  | x :: r, prev => if x < 0 ∨ x ≥ n then 2 else if prev.any (x ≤ ·) then 5 else checkSet n r (some x)
theorem checkSet59 (O : List Heap) (l : List Int) (n : Int) (hl : l.length ≤ max63) : ASpec Tryz.prog 67 [ints l, ii n] O (ii (checkSet n l none)) [] O := by
  refine aspec_intro Tk Tryz.func67 rfl Tryz.call67 Tryz.ntmps67 (Nat.le_of_ble_eq_true rfl) fun E => ?_
  refine rch_run Tk Tryz.func67 ?_
  let prev : Nat → Option Int := fun i => if i = 0 then none else l[i - 1]?
  refine rch_loop_ind (fun i : Nat => [(0, ints l), (1, ii n), (7, ints l), (8, ii l.length), (9, ii i)]) (fun _ => [] :: O) 33 (fun i => i ≤ l.length ∧ checkSet n l none = checkSet n (l.drop i) (prev i)) (fun i => l.length - i) 0 ⟨Nat.zero_le _, rfl⟩ ⟨rfl, rfl, rfl, rfl, rfl, trivial⟩ rfl rfl ?_
  intro i ⟨hi, hno⟩ ih
  rw [hno]
  refine rch_run Tk Tryz.func67 ?_
  refine m_cnd Tk Tryz.func67 rfl (fun h1 => ?_) (fun h1 => ?_)
  · have h1 : i < l.length := by simpa using h1
    rw [hno] at ih
    have hd : l.drop i = l[i] :: l.drop (i + 1) := (List.drop_eq_getElem_cons h1)
    have hnext : prev (i + 1) = some l[i] := by simp [prev, h1]
    refine m_need Tk Tryz.func67 (by omega) ?_
    refine m_elem Tk Tryz.func67 (get_mapZ h1) ?_
    refine m_know Tk Tryz.func67 rfl (fun h2 => ?_) (fun h2 => ?_)
    · have h2 : l[i] < 0 := by simpa using h2
      refine m_cnd Tk Tryz.func67 rfl (fun _ => ?_) (fun h => by cases h)
      refine m_ret' (hT := Tk) (r := ii _) rfl rfl rfl trivial rfl rfl ?_
      rw [hd]
      simp only [checkSet]
      rw [if_pos (.inl h2)]
    have h2 : ¬ l[i] < 0 := by simpa using h2
    refine m_cnd Tk Tryz.func67 rfl (fun h3 => ?_) (fun h3 => ?_)
    · have h3 : l[i] ≥ n := by simpa using h3
      refine m_ret' (hT := Tk) (r := ii _) rfl rfl rfl trivial rfl rfl ?_
      rw [hd]
      simp only [checkSet]
      rw [if_pos (.inr h3)]
    have h3 : ¬ l[i] ≥ n := by simpa using h3
    refine m_know Tk Tryz.func67 rfl (fun h4 => ?_) (fun h4 => ?_)
    · have h4 : 0 < i := by simpa using h4
      have hw : IntKind.i64.wrap ((i : Int) - 1) = ((i - 1 : Nat) : Int) := by
        simp only [max63] at hl
        rw [w64 (by omega) (by omega)]
        omega
      have hp : prev i = some (l[i - 1]'(by omega)) := by
        simp only [prev, if_neg (show ¬ i = 0 by omega)]
        exact List.getElem?_eq_getElem (by omega)
      refine m_need Tk Tryz.func67 (by rw [hw]; omega) ?_
      refine m_elem Tk Tryz.func67 (by rw [hw]; exact get_mapZ (f := fun x => [vi x]) (show i - 1 < l.length by omega)) ?_
      refine m_cnd Tk Tryz.func67 rfl (fun h5 => ?_) (fun h5 => ?_)
      · have h5 : l[i] ≤ l[i - 1] := by simpa using h5
        refine m_ret' (hT := Tk) (r := ii _) rfl rfl rfl trivial rfl rfl ?_
        rw [hd, hp]
        simp only [checkSet]
        rw [if_neg (by omega), if_pos (by simpa using h5)]
      · have h5 : ¬ l[i] ≤ l[i - 1] := by simpa using h5
        refine ih (i + 1) _ ⟨h1, ?_⟩ (by omega) ⟨rfl, rfl, rfl, rfl, congrArg ii (wsucc h1 hl), trivial⟩ rfl rfl
        rw [hnext, hd, hp]
        simp only [checkSet]
        rw [if_neg (by omega), if_neg (by simpa using h5)]
    · have h4 : i = 0 := by
        have : ¬ 0 < i := by simpa using h4
        omega
      refine m_cnd Tk Tryz.func67 rfl (fun h => by cases h) (fun _ => ?_)
      refine ih (i + 1) _ ⟨h1, ?_⟩ (by omega) ⟨rfl, rfl, rfl, rfl, congrArg ii (wsucc h1 hl), trivial⟩ rfl rfl
      rw [hnext, hd]
      have hp : prev i = none := by simp [prev, h4]
      rw [hp]
      simp only [checkSet]
      rw [if_neg (by omega)]
      simp
  · have h1 : l.length ≤ i := by simpa using h1
    refine m_ret' (hT := Tk) (r := ii _) rfl rfl rfl trivial rfl rfl ?_
    rw [List.drop_eq_nil_of_le h1]
    rfl
end Go.AI


namespace Go.AI
structure Unf (σ : Type) where
  sts : List σ
  mkl : List Int
  eds : List (Int × Int × Int)
def kOf : List (Int × Int × Int) → Nat → Option Nat
  | [], k => some k
  | e :: r, k => if (0 ≤ e.1 ∧ e.1 < k) ∧ 0 ≤ e.2.2 ∧ e.2.2 ≤ k then kOf r (if e.2.2 = k then k + 1 else k) else none
theorem kOf_app : ∀ (l r : List (Int × Int × Int)) (k : Nat), kOf (l ++ r) k = (kOf l k).bind (kOf r)
  | [], r, k => rfl
  | e :: l, r, k => by
    simp only [List.cons_append, kOf]
    split
    · exact kOf_app l r _
    · rfl
section
variable {σ : Type} (eq : σ → σ → Bool) (lim : Bool) (step : σ → Int → σ × Bool × Int) (mkd : σ → Bool)
def uvisit (i : Nat) (s : σ) (ev : Int) (U : Unf σ) : Except Int (Unf σ) :=
  if (step s ev).2.2 ≠ 0 then .error (step s ev).2.2 else
  if (step s ev).2.1 = false then .ok U else
  if U.sts.findIdx (eq (step s ev).1) < U.sts.length then .ok { U with eds := U.eds ++ [((i : Int), ev, ((U.sts.findIdx (eq (step s ev).1) : Nat) : Int))] } else
  if lim = true ∧ U.sts.length = 4096 then .error 3 else
  .ok { sts := U.sts ++ [(step s ev).1], mkl := U.mkl, eds := U.eds ++ [((i : Int), ev, ((U.sts.findIdx (eq (step s ev).1) : Nat) : Int))] }
def uvisits (i : Nat) (s : σ) : List Int → Unf σ → Except Int (Unf σ)
  | [], U => .ok U
  | ev :: r, U => match uvisit eq lim step i s ev U with
    | .error e => .error e
    | .ok U' => uvisits i s r U'
def umark (i : Nat) (s : σ) (U : Unf σ) : Unf σ := if mkd s then { U with mkl := U.mkl ++ [(i : Int)] } else U
def uloop (alpha : List Int) : Nat → Nat → Unf σ → Except Int (Unf σ)
  | 0, _, U => .ok U
  | f + 1, i, U => match U.sts[i]? with
    | none => .ok U
    | some s => match uvisits eq lim step i s alpha (umark mkd i s U) with
      | .error e => .error e
      | .ok U' => uloop alpha f (i + 1) U'
def unf0 (first : σ) : Unf σ := ⟨[first], [], []⟩
def unfR (alpha : List Int) (first : σ) : Except Int (Unf σ) := uloop eq lim step mkd alpha 4097 0 (unf0 first)
theorem umark_sts (i : Nat) (s : σ) (U : Unf σ) : (umark mkd i s U).sts = U.sts ∧ (umark mkd i s U).eds = U.eds := by
  unfold umark; split <;> exact ⟨rfl, rfl⟩
end
theorem findIdx_congr {α : Type} {p q : α → Bool} : ∀ {l : List α}, (∀ x ∈ l, p x = q x) → l.findIdx p = l.findIdx q
  | [], _ => rfl
  | x :: r, h => by
    rw [List.findIdx_cons, List.findIdx_cons, h x (by simp), findIdx_congr (l := r) fun y hy => h y (by simp [hy])]
theorem findIdx_none {α : Type} {p : α → Bool} : ∀ {l : List α}, (∀ x ∈ l, p x = false) → l.findIdx p = l.length
  | [], _ => rfl
  | x :: r, h => by
    rw [List.findIdx_cons, h x (by simp), findIdx_none (l := r) fun y hy => h y (by simp [hy])]
    rfl
theorem findIdx_app {α : Type} {p : α → Bool} : ∀ {l : List α} (r : List α), (∃ x ∈ l, p x = true) → (l ++ r).findIdx p = l.findIdx p
  | [], _, h => by obtain ⟨x, hx, _⟩ := h; cases hx
  | x :: l, r, h => by
    rw [List.cons_append, List.findIdx_cons, List.findIdx_cons]
    cases hx : p x with
    | true => rfl
    | false =>
      rw [findIdx_app r]
      obtain ⟨y, hy, hp⟩ := h
      rcases List.mem_cons.1 hy with rfl | hy
      · rw [hx] at hp; cases hp
      · exact ⟨y, hy, hp⟩
theorem findIdx_lt {α : Type} {p : α → Bool} : ∀ {l : List α}, (∃ x ∈ l, p x = true) → l.findIdx p < l.length
  | [], h => by obtain ⟨x, hx, _⟩ := h; cases hx
  | x :: l, h => by
    rw [List.findIdx_cons]
    cases hx : p x with
    | true => exact Nat.zero_lt_succ _
    | false =>
      have := findIdx_lt (p := p) (l := l) (by
        obtain ⟨y, hy, hp⟩ := h
        rcases List.mem_cons.1 hy with rfl | hy
        · rw [hx] at hp; cases hp
        · exact ⟨y, hy, hp⟩)
      simp only [cond_false, List.length_cons]
      omega
theorem findIdx_le {α : Type} {p : α → Bool} : ∀ {l : List α}, l.findIdx p ≤ l.length
  | [] => Nat.le_refl _
  | x :: l => by
    have := findIdx_le (p := p) (l := l)
    rw [List.findIdx_cons]
    cases p x with
    | true => exact Nat.zero_le _
    | false => simp only [cond_false, List.length_cons]; omega
section
variable {σ : Type} [DecidableEq σ]
def eqB (a b : σ) : Bool := decide (a = b)
theorem idx_self {l : List σ} (hn : l.Nodup) {i : Nat} (h : i < l.length) : l.findIdx (eqB l[i]) = i := by
  induction l generalizing i with
  | nil => cases h
  | cons x r ih =>
    rw [List.nodup_cons] at hn
    rw [List.findIdx_cons]
    cases i with
    | zero => simp [eqB]
    | succ i =>
      have hi : i < r.length := by simpa using h
      have hne : r[i] ≠ x := fun e => hn.1 (e ▸ List.getElem_mem hi)
      have e1 : eqB ((x :: r)[i + 1]) x = false := by simp [eqB, hne]
      rw [e1]
      simp only [cond_false, List.getElem_cons_succ]
      rw [ih hn.2 hi]
theorem idx_get {l : List σ} {s : σ} (h : s ∈ l) : l[l.findIdx (eqB s)]? = some s := by
  induction l with
  | nil => cases h
  | cons x r ih =>
    rw [List.findIdx_cons]
    by_cases e : s = x
    · subst e; simp [eqB]
    · have e1 : eqB s x = false := by simp [eqB, e]
      rw [e1]
      simp only [cond_false, List.getElem?_cons_succ]
      exact ih (by simpa [e] using h)
variable (step : σ → Int → σ × Bool × Int) (mkd : σ → Bool)
def eOf (sts : List σ) (i : Nat) (s : σ) (ev : Int) : Option (Int × Int × Int) := if (step s ev).2.1 = true then some ((i : Int), ev, ((sts.findIdx (eqB (step s ev).1) : Nat) : Int)) else none
theorem eOf_app {sts r : List σ} {i : Nat} {s : σ} {ev : Int} (h : (step s ev).2.1 = true → (step s ev).1 ∈ sts) : eOf step (sts ++ r) i s ev = eOf step sts i s ev := by
  unfold eOf
  split
  · rename_i hp
    rw [findIdx_app r ⟨_, h hp, by simp [eqB]⟩]
  · rfl
theorem filterMap_congr' {α β : Type} {f g : α → Option β} : ∀ {l : List α}, (∀ x ∈ l, f x = g x) → l.filterMap f = l.filterMap g
  | [], _ => rfl
  | x :: r, h => by
    simp only [List.filterMap_cons, h x (by simp)]
    rw [filterMap_congr' (l := r) fun y hy => h y (by simp [hy])]
structure Fin1 (eq : σ → σ → Bool) (lim : Bool) (P : σ → Prop) : Prop where
  step : ∀ s ev, P s → (step s ev).2.1 = true → P (step s ev).1
  eq : ∀ s t, P s → P t → eq s t = eqB s t
  few : lim = true → ∀ l : List σ, (∀ s ∈ l, P s) → l.Nodup → l.length < 4096
structure UOk (P : σ → Prop) (U : Unf σ) : Prop where
  ok : ∀ s ∈ U.sts, P s
  nd : U.sts.Nodup
  fr : kOf U.eds 1 = some U.sts.length
variable {step} {eq : σ → σ → Bool} {lim : Bool} {P : σ → Prop}
theorem uvisit_spec (hF : Fin1 step eq lim P) {i : Nat} {s : σ} {ev : Int} {U : Unf σ} (hU : UOk P U) (hs : P s) (hi : i < U.sts.length) :
    if (step s ev).2.2 ≠ 0 then uvisit eq lim step i s ev U = .error (step s ev).2.2 else ∃ r, uvisit eq lim step i s ev U = .ok ⟨U.sts ++ r, U.mkl, U.eds ++ [ev].filterMap (eOf step (U.sts ++ r) i s)⟩ ∧
      UOk P ⟨U.sts ++ r, U.mkl, U.eds ++ [ev].filterMap (eOf step (U.sts ++ r) i s)⟩ ∧ ((step s ev).2.1 = true → (step s ev).1 ∈ U.sts ++ r) := by
  unfold uvisit
  split
  · rfl
  cases hp : (step s ev).2.1 with
  | false =>
    refine ⟨[], ?_, ?_, fun h => by cases h⟩
    · simp [List.filterMap_cons, eOf, hp]
    · simpa [List.filterMap_cons, eOf, hp] using hU
  | true =>
    have hn := hF.step s ev hs hp
    have hq : U.sts.findIdx (eq (step s ev).1) = U.sts.findIdx (eqB (step s ev).1) := findIdx_congr fun x hx => hF.eq _ _ hn (hU.ok x hx)
    rw [hq]
    simp only [Bool.true_eq_false, if_false]
    by_cases hm : (step s ev).1 ∈ U.sts
    · have hlt : U.sts.findIdx (eqB (step s ev).1) < U.sts.length := findIdx_lt ⟨_, hm, by simp [eqB]⟩
      rw [if_pos hlt]
      have e1 : [ev].filterMap (eOf step (U.sts ++ []) i s) = [((i : Int), ev, ((U.sts.findIdx (eqB (step s ev).1) : Nat) : Int))] := by
        simp [List.filterMap_cons, eOf, hp]
      refine ⟨[], ?_, ⟨?_, ?_, ?_⟩, fun _ => by simpa using hm⟩
      · rw [e1, List.append_nil]
      · simpa using hU.ok
      · simpa using hU.nd
      · show kOf (U.eds ++ _) 1 = some (U.sts ++ []).length
        rw [e1, kOf_app, hU.fr, List.append_nil]
        simp only [Option.bind_some, kOf]
        rw [if_pos ⟨⟨by omega, by omega⟩, by omega, by omega⟩, if_neg (by omega)]
    · have hno : U.sts.findIdx (eqB (step s ev).1) = U.sts.length := findIdx_none fun x hx => by
        simp only [eqB, decide_eq_false_iff_not]
        exact fun e => hm (e ▸ hx)
      have hnd : (U.sts ++ [(step s ev).1]).Nodup := by
        unfold List.Nodup
        rw [List.pairwise_append]
        refine ⟨hU.nd, List.pairwise_singleton _ _, fun a ha b hb => ?_⟩
        rw [List.mem_singleton] at hb
        subst hb
        exact fun e => hm (e ▸ ha)
      have hok : ∀ t ∈ U.sts ++ [(step s ev).1], P t := by
        intro t ht
        rcases List.mem_append.1 ht with ht | ht
        · exact hU.ok t ht
        · rw [List.mem_singleton] at ht; subst ht; exact hn
      have hfew : ¬ (lim = true ∧ U.sts.length = 4096) := by
        rintro ⟨h1, h2⟩
        have := hF.few h1 _ hok hnd
        simp only [List.length_append, List.length_singleton] at this
        omega
      rw [hno, if_neg (Nat.lt_irrefl _), if_neg hfew]
      have e2 : (U.sts ++ [(step s ev).1]).findIdx (eqB (step s ev).1) = U.sts.length := by
        have h := idx_self hnd (i := U.sts.length) (by simp)
        simpa using h
      have e1 : [ev].filterMap (eOf step (U.sts ++ [(step s ev).1]) i s) = [((i : Int), ev, ((U.sts.length : Nat) : Int))] := by
        simp [List.filterMap_cons, eOf, hp, e2]
      refine ⟨[(step s ev).1], ?_, ⟨hok, hnd, ?_⟩, fun _ => by simp⟩
      · rw [e1]
      · show kOf (U.eds ++ _) 1 = some (U.sts ++ _).length
        rw [e1, kOf_app, hU.fr]
        simp only [Option.bind_some, kOf]
        rw [if_pos ⟨⟨by omega, by omega⟩, by omega, by omega⟩, if_pos True.intro]
        simp
theorem uvisits_spec (hF : Fin1 step eq lim P) {i : Nat} {s : σ} (hs : P s) : ∀ (l : List Int) {U : Unf σ}, UOk P U → i < U.sts.length →
    (∃ ev ∈ l, (step s ev).2.2 ≠ 0 ∧ uvisits eq lim step i s l U = .error (step s ev).2.2) ∨ ∃ r, uvisits eq lim step i s l U = .ok ⟨U.sts ++ r, U.mkl, U.eds ++ l.filterMap (eOf step (U.sts ++ r) i s)⟩ ∧
      UOk P ⟨U.sts ++ r, U.mkl, U.eds ++ l.filterMap (eOf step (U.sts ++ r) i s)⟩ ∧ ∀ ev ∈ l, (step s ev).2.2 = 0 ∧ ((step s ev).2.1 = true → (step s ev).1 ∈ U.sts ++ r)
  | [], U, hU, _ => .inr ⟨[], by simp [uvisits], by simpa using hU, by simp⟩
  | ev :: l, U, hU, hi => by
    have h := uvisit_spec hF (ev := ev) hU hs hi
    by_cases he : (step s ev).2.2 ≠ 0
    · rw [if_pos he] at h
      refine .inl ⟨ev, by simp, he, ?_⟩
      simp only [uvisits, h]
    rw [if_neg he] at h
    obtain ⟨r, h1, h2, h3⟩ := h
    simp only [uvisits, h1]
    have hi' : i < (U.sts ++ r).length := by rw [List.length_append]; omega
    rcases uvisits_spec hF hs l h2 hi' with ⟨e, he1, he2, he3⟩ | ⟨r', h4, h5, h6⟩
    · exact .inl ⟨e, by simp [he1], he2, he3⟩
    · have e1 : [ev].filterMap (eOf step (U.sts ++ r) i s) ++ l.filterMap (eOf step (U.sts ++ (r ++ r')) i s) = (ev :: l).filterMap (eOf step (U.sts ++ (r ++ r')) i s) := by
        rw [← List.append_assoc U.sts r r']
        rw [filterMap_congr' (g := eOf step (U.sts ++ r ++ r') i s) (l := [ev]) fun x hx => by rw [List.mem_singleton] at hx; subst hx; exact (eOf_app step h3).symm]
        rw [← List.filterMap_append]
        rfl
      simp only [List.append_assoc] at h4 h5 h6
      rw [e1] at h4 h5
      refine .inr ⟨r ++ r', h4, h5, fun x hx => ?_⟩
      rcases List.mem_cons.1 hx with rfl | hx
      · refine ⟨by simpa using he, fun hp => ?_⟩
        rw [← List.append_assoc]
        exact List.mem_append_left _ (h3 hp)
      · exact h6 x hx
structure UAt (mkd : σ → Bool) (alpha : List Int) (P : σ → Prop) (step : σ → Int → σ × Bool × Int) (i : Nat) (U : Unf σ) : Prop extends UOk P U where
  le : i ≤ U.sts.length
  pos : 0 < U.sts.length
  eds : U.eds = (List.range i).flatMap fun k => match U.sts[k]? with
    | none => []
    | some s => alpha.filterMap (eOf step U.sts k s)
  mkl : U.mkl = ((List.range i).filter fun k => match U.sts[k]? with
    | none => false
    | some s => mkd s).map fun k => ((k : Nat) : Int)
  fine : ∀ k s, k < i → U.sts[k]? = some s → ∀ ev ∈ alpha, (step s ev).2.2 = 0 ∧ ((step s ev).2.1 = true → (step s ev).1 ∈ U.sts)
def UBad (alpha : List Int) (P : σ → Prop) (step : σ → Int → σ × Bool × Int) (e : Int) : Prop := e ≠ 0 ∧ ∃ s, P s ∧ ∃ ev ∈ alpha, (step s ev).2.2 = e
theorem flatMap_congr' {α β : Type} {f g : α → List β} : ∀ {l : List α}, (∀ x ∈ l, f x = g x) → l.flatMap f = l.flatMap g
  | [], _ => rfl
  | x :: r, h => by
    simp only [List.flatMap_cons, h x (by simp)]
    rw [flatMap_congr' (l := r) fun y hy => h y (by simp [hy])]
theorem filter_congr' {α : Type} {f g : α → Bool} : ∀ {l : List α}, (∀ x ∈ l, f x = g x) → l.filter f = l.filter g
  | [], _ => rfl
  | x :: r, h => by
    simp only [List.filter_cons, h x (by simp)]
    rw [filter_congr' (l := r) fun y hy => h y (by simp [hy])]
theorem uloop_spec (hF : Fin1 step eq lim P) {alpha : List Int} {B : Nat} (hB : ∀ l : List σ, (∀ s ∈ l, P s) → l.Nodup → l.length ≤ B) : ∀ (f i : Nat) {U : Unf σ}, UAt mkd alpha P step i U → B < i + f →
    (∃ e, uloop eq lim step mkd alpha f i U = .error e ∧ UBad alpha P step e) ∨ ∃ V, uloop eq lim step mkd alpha f i U = .ok V ∧ UAt mkd alpha P step V.sts.length V
  | 0, i, U, h, hf => by
    have := hB _ h.ok h.nd
    have := h.le
    omega
  | f + 1, i, U, h, hf => by
    simp only [uloop]
    cases hs : U.sts[i]? with
    | none =>
      have hi : i = U.sts.length := by
        have := List.getElem?_eq_none_iff.1 hs
        have := h.le
        omega
      subst hi
      exact .inr ⟨U, rfl, h⟩
    | some s =>
      obtain ⟨hlt, e⟩ := List.getElem?_eq_some_iff.1 hs
      have hPs : P s := h.ok s (e ▸ List.getElem_mem hlt)
      obtain ⟨m1, m2⟩ := umark_sts mkd i s U
      have hM : UOk P (umark mkd i s U) := ⟨by rw [m1]; exact h.ok, by rw [m1]; exact h.nd, by rw [m1, m2]; exact h.fr⟩
      rcases uvisits_spec hF hPs alpha hM (i := i) (by rw [m1]; exact hlt) with ⟨ev, he1, he2, he3⟩ | ⟨r, h4, h5, h6⟩
      · simp only [he3]
        exact .inl ⟨_, rfl, he2, s, hPs, ev, he1, rfl⟩
      · simp only [h4]
        rw [m1, m2] at *
        refine uloop_spec hF hB f (i + 1) (U := _) ⟨h5, ?_, ?_, ?_, ?_, ?_⟩ (by omega)
        · show i + 1 ≤ (U.sts ++ r).length
          simp only [List.length_append]; omega
        · show 0 < (U.sts ++ r).length
          simp only [List.length_append]; omega
        · show U.eds ++ alpha.filterMap (eOf step (U.sts ++ r) i s) = (List.range (i + 1)).flatMap fun k => match (U.sts ++ r)[k]? with
            | none => []
            | some s => alpha.filterMap (eOf step (U.sts ++ r) k s)
          rw [List.range_succ, List.flatMap_append, h.eds]
          congr 1
          · apply flatMap_congr'
            intro k hk
            rw [List.mem_range] at hk
            have hkl : k < U.sts.length := by omega
            rw [List.getElem?_append_left hkl, List.getElem?_eq_getElem hkl]
            simp only
            apply filterMap_congr'
            intro x hx
            exact (eOf_app step (h.fine k _ hk (List.getElem?_eq_getElem hkl) x hx).2).symm
          · simp only [List.flatMap_cons, List.flatMap_nil, List.append_nil]
            rw [List.getElem?_append_left hlt, hs]
        · show (umark mkd i s U).mkl = ((List.range (i + 1)).filter fun k => match (U.sts ++ r)[k]? with
            | none => false
            | some s => mkd s).map fun k => ((k : Nat) : Int)
          rw [List.range_succ, List.filter_append, List.map_append]
          have e1 : ((List.range i).filter fun k => match (U.sts ++ r)[k]? with
            | none => false
            | some s => mkd s) = ((List.range i).filter fun k => match U.sts[k]? with
            | none => false
            | some s => mkd s) := filter_congr' fun k hk => by
              rw [List.mem_range] at hk
              rw [List.getElem?_append_left (by omega)]
          rw [e1, ← h.mkl]
          have e2 : (match (U.sts ++ r)[i]? with
            | none => false
            | some s => mkd s) = mkd s := by
            rw [List.getElem?_append_left hlt, hs]
          simp only [List.filter_cons, List.filter_nil, e2]
          unfold umark
          split <;> simp
        · intro k t hk ht x hx
          show (step t x).2.2 = 0 ∧ ((step t x).2.1 = true → (step t x).1 ∈ U.sts ++ r)
          have ht : (U.sts ++ r)[k]? = some t := ht
          by_cases hki : k = i
          · subst hki
            rw [List.getElem?_append_left hlt, hs] at ht
            simp only [Option.some.injEq] at ht
            subst ht
            exact h6 x hx
          · have hkl : k < i := by omega
            rw [List.getElem?_append_left (by omega)] at ht
            have := h.fine k t hkl ht x hx
            exact ⟨this.1, fun hp => List.mem_append_left _ (this.2 hp)⟩
theorem unfR_spec (hF : Fin1 step eq lim P) {alpha : List Int} {first : σ} (h0 : P first) {B : Nat} (hB : ∀ l : List σ, (∀ s ∈ l, P s) → l.Nodup → l.length ≤ B) (hb : B < 4097) :
    (∃ e, unfR eq lim step mkd alpha first = .error e ∧ UBad alpha P step e) ∨ ∃ V, unfR eq lim step mkd alpha first = .ok V ∧ UAt mkd alpha P step V.sts.length V := by
  refine uloop_spec mkd hF hB 4097 0 ⟨⟨?_, ?_, rfl⟩, Nat.zero_le _, Nat.zero_lt_succ _, rfl, rfl, fun k s hk => absurd hk (Nat.not_lt_zero _)⟩ (by omega)
  · intro s hs
    rw [unf0, List.mem_singleton] at hs
    subst hs
    exact h0
  · simp [unf0]
theorem uloop_same {eq' : σ → σ → Bool} {lim' : Bool} (hF : Fin1 step eq lim P) (hF' : Fin1 step eq' lim' P) {alpha : List Int} : ∀ (f i : Nat) {U : Unf σ}, UOk P U →
    uloop eq lim step mkd alpha f i U = uloop eq' lim' step mkd alpha f i U
  | 0, i, U, h => rfl
  | f + 1, i, U, h => by
    simp only [uloop]
    cases hs : U.sts[i]? with
    | none => rfl
    | some s =>
      obtain ⟨hlt, e⟩ := List.getElem?_eq_some_iff.1 hs
      have hPs : P s := h.ok s (e ▸ List.getElem_mem hlt)
      obtain ⟨m1, m2⟩ := umark_sts mkd i s U
      have hM : UOk P (umark mkd i s U) := ⟨by rw [m1]; exact h.ok, by rw [m1]; exact h.nd, by rw [m1, m2]; exact h.fr⟩
      have same : ∀ (l : List Int) {U : Unf σ}, UOk P U → i < U.sts.length → uvisits eq lim step i s l U = uvisits eq' lim' step i s l U := by
        intro l
        induction l with
        | nil => intro U _ _; rfl
        | cons ev l ih =>
          intro U hU hi
          have h1 := uvisit_spec hF (ev := ev) hU hPs hi
          have e1 : uvisit eq lim step i s ev U = uvisit eq' lim' step i s ev U := by
            unfold uvisit
            split
            · rfl
            split
            · rfl
            rename_i hp
            have hp : (step s ev).2.1 = true := by simpa using hp
            have hn := hF.step s ev hPs hp
            have hq : U.sts.findIdx (eq (step s ev).1) = U.sts.findIdx (eqB (step s ev).1) := findIdx_congr fun x hx => hF.eq _ _ hn (hU.ok x hx)
            have hq' : U.sts.findIdx (eq' (step s ev).1) = U.sts.findIdx (eqB (step s ev).1) := findIdx_congr fun x hx => hF'.eq _ _ hn (hU.ok x hx)
            rw [hq, hq']
            split
            · rfl
            have hc : ∀ b : Bool, (b = true → ∀ l : List σ, (∀ s ∈ l, P s) → l.Nodup → l.length < 4096) → ¬ (b = true ∧ U.sts.length = 4096) := by
              rintro b hb ⟨h1, h2⟩
              have := hb h1 _ hU.ok hU.nd
              omega
            rw [if_neg (hc lim hF.few), if_neg (hc lim' hF'.few)]
          simp only [uvisits, ← e1]
          by_cases he : (step s ev).2.2 ≠ 0
          · rw [if_pos he] at h1
            rw [h1]
          · rw [if_neg he] at h1
            obtain ⟨r, h2, h3, _⟩ := h1
            rw [h2]
            exact ih h3 (by simp only [List.length_append]; omega)
      have e2 := same alpha hM (by rw [m1]; exact hlt)
      simp only [← e2]
      rcases uvisits_spec hF hPs alpha hM (i := i) (by rw [m1]; exact hlt) with ⟨ev, he1, he2, he3⟩ | ⟨r, h4, h5, h6⟩
      · simp only [he3]
      · simp only [h4]
        exact uloop_same hF hF' f (i + 1) h5
theorem unfR_same {eq' : σ → σ → Bool} {lim' : Bool} (hF : Fin1 step eq lim P) (hF' : Fin1 step eq' lim' P) {alpha : List Int} {first : σ} (h0 : P first) :
    unfR eq lim step mkd alpha first = unfR eq' lim' step mkd alpha first := by
  refine uloop_same mkd hF hF' 4097 0 ⟨?_, ?_, rfl⟩
  · intro s hs
    rw [unf0, List.mem_singleton] at hs
    subst hs
    exact h0
  · simp [unf0]
end
end Go.AI


namespace Go.AI
open Go.Proofs
set_option maxRecDepth 20000
def findIx {α : Type} (p : α → Bool) : List α → Nat → Int
  | [], _ => -1
  | x :: r, i => if p x then (i : Int) else findIx p r (i + 1)
theorem indexFunc86 (O : List Heap) (l : List Int) (f d nm : Nat) (p : Int → Bool) (hl : l.length ≤ max63) (hp : ∀ x ∈ l, ASpec Tryz.prog f [ii x, .own (d + 1) nm 0 0] ([] :: O) (bb (p x)) [] ([] :: O)) :
    ASpec Tryz.prog 104 [ints l, .fn (.func f) [] [.own d nm 0 0]] O (ii (findIx p l 0)) [] O := by
  refine aspec_intro Tk Tryz.func104 rfl Tryz.call104 Tryz.ntmps104 (Nat.le_of_ble_eq_true rfl) fun E => ?_
  refine rch_run Tk Tryz.func104 ?_
  refine rch_loop_ind (fun i : Nat => [(0, ints l), (1, .fn (.func f) [] [.own (d + 1) nm 0 0]), (6, ints l), (7, ii l.length), (8, ii i)]) (fun _ => [] :: O) 19 (fun i => i ≤ l.length ∧ findIx p l 0 = findIx p (l.drop i) i) (fun i => l.length - i) 0 ⟨Nat.zero_le _, rfl⟩ ⟨rfl, rfl, rfl, rfl, rfl, trivial⟩ rfl rfl ?_
  intro i ⟨hi, hno⟩ ih
  rw [hno]
  rw [hno] at ih
  refine rch_run Tk Tryz.func104 ?_
  refine m_cnd Tk Tryz.func104 rfl (fun h1 => ?_) (fun h1 => ?_)
  · have h1 : i < l.length := by simpa using h1
    have hd : l.drop i = l[i] :: l.drop (i + 1) := (List.drop_eq_getElem_cons h1)
    refine m_need Tk Tryz.func104 (by omega) ?_
    refine m_elem Tk Tryz.func104 (get_mapZ h1) ?_
    refine m_call Tk Tryz.func104 (hp l[i] (List.getElem_mem h1)) rfl rfl rfl rfl rfl ?_
    refine m_cnd Tk Tryz.func104 rfl (fun h2 => ?_) (fun h2 => ?_)
    · refine m_ret' (hT := Tk) (r := ii _) rfl rfl rfl trivial rfl rfl ?_
      rw [hd]
      simp only [findIx]
      rw [if_pos h2]
    · refine ih (i + 1) _ ⟨h1, ?_⟩ (by omega) ⟨rfl, rfl, rfl, rfl, congrArg ii (wsucc h1 hl), trivial⟩ rfl rfl
      rw [hd]
      simp only [findIx]
      rw [if_neg (by rw [h2]; simp)]
  · have h1 : l.length ≤ i := by simpa using h1
    refine m_ret' (hT := Tk) (r := ii _) rfl rfl rfl trivial rfl rfl ?_
    rw [List.drop_eq_nil_of_le h1]
    rfl
theorem findIx_any {α : Type} (p : α → Bool) : ∀ (l : List α) (i : Nat), decide (findIx p l i ≥ 0) = l.any p
  | [], i => by simp [findIx]
  | x :: r, i => by
    by_cases h : p x = true
    · have e : findIx p (x :: r) i = (i : Int) := if_pos h
      rw [List.any_cons, h, Bool.true_or, decide_eq_true_iff, e]
      omega
    · have e : findIx p (x :: r) i = findIx p r (i + 1) := if_neg h
      have h' : p x = false := by simpa using h
      rw [List.any_cons, h', Bool.false_or, ← findIx_any p r (i + 1)]
      exact decide_eq_decide.2 (by rw [e])
theorem containsFunc68 (O : List Heap) (l : List Int) (f d nm : Nat) (p : Int → Bool) (hl : l.length ≤ max63) (hp : ∀ x ∈ l, ASpec Tryz.prog f [ii x, .own (d + 2) nm 0 0] ([] :: [] :: O) (bb (p x)) [] ([] :: [] :: O)) :
    ASpec Tryz.prog 47 [ints l, .fn (.func f) [] [.own d nm 0 0]] O (bb (l.any p)) [] O := by
  refine aspec_intro Tk Tryz.func47 rfl Tryz.call47 Tryz.ntmps47 (Nat.le_of_ble_eq_true rfl) fun E => ?_
  refine rch_run Tk Tryz.func47 ?_
  refine m_call Tk Tryz.func47 (indexFunc86 _ l f (d + 1) nm p hl hp) rfl rfl rfl rfl rfl ?_
  refine m_ret' (hT := Tk) (r := bb _) rfl rfl rfl trivial rfl rfl ?_
  exact congrArg bb (findIx_any p l 0)
end Go.AI


namespace Go.AI
open Go.Proofs
set_option maxRecDepth 20000
def chr (b : ByteArray) (i : Nat) : Int := ((b.data.toList.getD i 0).toNat : Int)
def letterB (c : Int) : Bool := (decide (97 ≤ c) && decide (c ≤ 122)) || (decide (65 ≤ c) && decide (c ≤ 90)) || decide (c = 95)
def charB (i : Nat) (c : Int) : Bool := letterB c || (decide (i ≠ 0) && decide (48 ≤ c) && decide (c ≤ 57))
def isNameB (b : ByteArray) : Bool := (List.range b.size).all (fun i => charB i (chr b i)) && decide (0 < b.size) && decide (b.size ≤ 32)
end Go.AI


namespace Go.AI
open Go.Proofs
set_option maxRecDepth 20000
structure Vr where
  name : ByteArray
  low : Int
  high : Int
  init : Int
def checkVr (ds : List Vr) (v : Vr) : Option Int :=
  if isNameB v.name = false then some 7
  else if ds.any (fun x => x.name.toList == v.name.toList) then some 8
  else if large v.low || large v.high then some 2
  else if v.low > v.high then some 5
  else if v.init < v.low ∨ v.init > v.high then some 2
  else none
where large (a : Int) : Bool := decide (65536 < a) || decide (a < -65536)
def checkVrs (all : List Vr) : List Vr → Nat → Int
  | [], _ => 0
  | v :: r, i => match checkVr (all.take i) v with
    | some e => e
    | none => checkVrs all r (i + 1)
end Go.AI


namespace Go.AI
open Go.Proofs
set_option maxRecDepth 20000
end Go.AI


namespace Go.AI
open Go.Proofs
set_option maxRecDepth 20000
inductive Ex where
  | mk (op val idx : Int) (args : List Ex)
end Go.AI


namespace Go.AI
open Go.Proofs
set_option maxRecDepth 20000
end Go.AI


namespace Go.AI
open Go.Proofs
set_option maxRecDepth 20000
mutual
def exOk : Ex → Prop
  | .mk _ _ _ a => a.length ≤ max63 ∧ exOks a
def exOks : List Ex → Prop
  | [] => True
  | x :: xs => exOk x ∧ exOks xs
end
end Go.AI


namespace Go.AI
open Go.Proofs
set_option maxRecDepth 20000
def arity (x : Int) : Int × Bool :=
  if x = 0 then (0, true) else
  if x = 1 then (0, true) else
  if x = 5 then (1, true) else
  if x = 10 then (1, true) else
  if x = 2 then (2, true) else
  if x = 3 then (2, true) else
  if x = 4 then (2, true) else
  if x = 6 then (2, true) else
  if x = 7 then (2, true) else
  if x = 8 then (2, true) else
  if x = 9 then (2, true) else
  if x = 11 then (2, true) else
  if x = 12 then (2, true) else
  if x = 13 then (3, true) else
  (0, false)
end Go.AI


namespace Go.AI
open Go.Proofs
set_option maxRecDepth 20000
def within (l : List Vr) (xs : List Int) : Bool := match l, xs with
  | [], [] => true
  | v :: r, x :: ys => decide (v.low ≤ x) && decide (x ≤ v.high) && within r ys
  | _, _ => false
end Go.AI


namespace Go.AI
theorem objAt_set : ∀ {S : List Heap} {d nm : Nat} {ob : Ob} (d' n' : Nat), objAt (setAt S d nm ob) d' n' = if d = d' ∧ nm = n' ∧ d < S.length then some ob else objAt S d' n'
  | [], d, nm, ob, d', n' => by simp [setAt]
  | H :: S, 0, nm, ob, d', n' => by
    cases d' with
    | zero =>
      simp only [setAt, objAt, List.getElem?_cons_zero, look_cons]
      by_cases h : nm = n' <;> simp [h]
    | succ d' => simp [setAt, objAt]
  | H :: S, d + 1, nm, ob, d', n' => by
    cases d' with
    | zero => simp [setAt, objAt]
    | succ d' =>
      have := objAt_set (S := S) (d := d) (nm := nm) (ob := ob) d' n'
      simp only [objAt] at this
      simp only [setAt, objAt, List.getElem?_cons_succ, this]
      simp
theorem objAt_lt {S : List Heap} {d nm : Nat} {ob : Ob} (h : objAt S d nm = some ob) : d < S.length := by
  unfold objAt at h
  cases e : S[d]? with
  | none => simp [e] at h
  | some H => exact (List.getElem?_eq_some_iff.1 e).1
theorem objAt_set_id {S : List Heap} {d nm : Nat} {a : Ob} (h : objAt S d nm = some a) (d' n' : Nat) : objAt (setAt S d nm a) d' n' = objAt S d' n' := by
  rw [objAt_set]
  by_cases e : d = d' ∧ nm = n' ∧ d < S.length
  · obtain ⟨rfl, rfl, _⟩ := e
    rw [if_pos ⟨rfl, rfl, objAt_lt h⟩, h]
  · rw [if_neg e]
theorem rch_meet {c : Cx} {todo : List Item} {s : St} {l : List (Nat × D)} {H Hv : Heap} {O : List Heap} {n : Nat} (h : Rch c todo { σ := l, S := Hv :: O, n := n }) (hs : Sub s l) (hS : s.S = H :: O) (hH : SubH H Hv) (hok : okCut l Hv = true) (hn : s.n = n) : Rch c todo s := rch_cut2 hs hS hH hok hn h
theorem join_p {c : Cx} {todo : List Item} {s6 : St} {G P : Prop} (h1 : (P → Rch c todo s6) → G) (h2 : P → Rch c todo s6) : G := h1 h2
theorem take_map_succ {α β : Type} {f : α → β} {l : List α} {i : Nat} (h : i < l.length) : (l.take (i + 1)).map f = (l.take i).map f ++ [f l[i]] := by
  rw [List.take_add_one, List.getElem?_eq_getElem h, List.map_append]
  rfl
theorem beqT {a b : Int} (h : (a == b) = true) : a = b := by simpa using h
theorem beqF {a b : Int} (h : (a == b) = false) : a ≠ b := by simpa using h
theorem bneT {a b : Int} (h : (a != b) = true) : a ≠ b := by simpa using h
theorem bneF {a b : Int} (h : (a != b) = false) : a = b := by simpa using h
theorem notT {b : Bool} (h : (!b) = true) : b = false := by simpa using h
theorem notF {b : Bool} (h : (!b) = false) : b = true := by simpa using h
theorem up_obj {H : Heap} {S : List Heap} {d nm : Nat} {o : Ob} (h : objAt S d nm = some o) : objAt (H :: S) (d + 1) nm = some o := h
end Go.AI


namespace Go.AI
open Go.Proofs
set_option maxRecDepth 20000
def formHead (op v ix : Int) (len : Nat) (n : Int) : Int :=
  if (arity op).2 = false then 11 else
  if (len : Int) ≠ (arity op).1 then 4 else
  if (op ≠ 0 ∧ v ≠ 0) ∨ (op ≠ 1 ∧ ix ≠ 0) then 6 else
  if (op = 0 ∧ (65536 < v ∨ v < -65536)) ∨ (op = 1 ∧ (ix < 0 ∨ ix ≥ n)) then 2 else 0
mutual
def formR : Ex → Int → Int → Int → Int × Int
  | .mk op v ix args, n, lvl, c =>
    if c = 64 ∨ lvl > 8 then (3, c) else
    if formHead op v ix args.length n ≠ 0 then (formHead op v ix args.length n, c + 1) else formRs args n (lvl + 1) (c + 1)
def formRs : List Ex → Int → Int → Int → Int × Int
  | [], _, _, c => (0, c)
  | e :: r, n, lvl, c => if (formR e n lvl c).1 ≠ 0 then formR e n lvl c else formRs r n lvl (formR e n lvl c).2
end
end Go.AI


namespace Go.AI
section
variable {c : Cx} {s : St} {E : Env} {K : Kn} {ρ : Nat → Nat → Loc} {H : Heap} {O : List Heap} {w : World}
theorem HInv.rebox {b : Nat} {cs cs' : List D} (hh : HInv E K ρ (H :: O) w) (ho : look H b = some (.box cs)) (hc : ∀ vs, RepDL K ρ (shape (H :: O)) vs cs → RepDL K ρ (shape (H :: O)) vs cs') : HInv E K ρ (((b, .box cs') :: H) :: O) w := by
  have hsh : shape (((b, .box cs') :: H) :: O) = shape (H :: O) := shape_over ho rfl
  have hcase : ∀ d n o, objAt (((b, .box cs') :: H) :: O) d n = some o → ∃ o0, objAt (H :: O) d n = some o0 ∧ (o = o0 ∨ (d = 0 ∧ n = b ∧ o = .box cs' ∧ o0 = .box cs)) ∧ (∀ l, backed l o ↔ backed l o0) := by
    intro d n o e
    rcases objAt_over (ob := .box cs) e with ⟨rfl, rfl, rfl⟩ | ⟨_, e2⟩
    · exact ⟨.box cs, by simpa [objAt] using ho, .inr ⟨rfl, rfl, rfl, rfl⟩, fun l => Iff.rfl⟩
    · exact ⟨o, e2, .inl rfl, fun _ => Iff.rfl⟩
  refine ⟨hh.holds, ?_, ?_, hh.size, ?_, ?_, hh.outer, hh.Kle, hh.Knew, hh.rest⟩
  · intro d n o e
    obtain ⟨o0, e0, h1, _⟩ := hcase d n o e
    have h0 := hh.own _ _ _ e0
    have hdr : shape ((((b, .box cs') :: H) :: O).drop d) = shape ((H :: O).drop d) := by
      cases d with
      | zero => exact hsh
      | succ d => rfl
    rw [hdr]
    rcases h1 with rfl | ⟨rfl, rfl, rfl, rfl⟩
    · exact h0
    · obtain ⟨cl, T, a1, a2, a3⟩ := h0
      have e2 : (fun d n => ρ (0 + d) n) = ρ := by funext d n; rw [Nat.zero_add]
      rw [e2] at a2 ⊢
      exact ⟨cl, T, a1, hc _ a2, a3⟩
  · intro d n o d' n' o' e e' b1 b2 hbe
    obtain ⟨o1, e1, _, h1⟩ := hcase d n o e
    obtain ⟨o2, e2, _, h2⟩ := hcase d' n' o' e'
    exact hh.inj _ _ _ _ _ _ e1 e2 ((h1 _).1 b1) ((h2 _).1 b2) hbe
  · intro b' hb hno
    exact hh.old b' hb fun d n o e => hno d n o (by simpa [objAt] using e)
  · intro n o e hb
    obtain ⟨o1, e1, _, h1⟩ := hcase 0 n o e
    exact hh.loc _ _ e1 ((h1 _).1 hb)
theorem RepDL.mid {K : Kn} {ρ : Nat → Nat → Loc} {sh : Nat → Nat → Option Sh} {d d' : D} (h : ∀ v, RepD K ρ sh v d → RepD K ρ sh v d') : ∀ {a b : List D} {vs : List Value}, RepDL K ρ sh vs (a ++ d :: b) → RepDL K ρ sh vs (a ++ d' :: b)
  | [], b, _, .cons r rs => .cons (h _ r) rs
  | _ :: a, b, _, .cons r rs => .cons r (RepDL.mid (a := a) h rs)
theorem wk_nilbox2 (b nm e z : Nat) {pre post : List D} (hS : s.S = H :: O) (hb : look H b = some (.box (pre ++ .i (.v (.slice none 0 0)) :: post))) (hf : look H nm = none) : Wk c s { σ := s.σ, S := ((b, .box (pre ++ .osl 0 nm :: post)) :: (nm, .arr e z 0 [] true) :: H) :: O, n := s.n } := by
  intro K ρ a w hi
  have hh := hi.h
  rw [hS] at hh
  let l0 : Loc := ⟨0, 0, none⟩
  have hown : ∀ ρ' sh', OwnAt K ρ' sh' w l0 (.arr e z 0 [] true) := fun ρ' sh' => ⟨by simp, rfl, Nat.le_refl _, by simp [l0], .inl ⟨rfl, rfl⟩⟩
  have hg : Grow K ρ (H :: O) w [(nm, .arr e z 0 [] true)] K (upd ρ nm l0) w := by
    refine ⟨K.le_refl, fun _ _ _ h => .inl h, Nat.le_refl _, fun _ _ => rfl, ⟨rfl, rfl, rfl⟩, fun d n' h => ?_, hh.holds, fun n' ob e' => ?_, fun n1 o1 n2 o2 e1 e2 b1 b2 _ => ?_⟩
    · refine upd_other _ _ _ (h.imp id fun h e' => ?_)
      subst e'
      simp [look_cons] at h
    · obtain ⟨rfl, rfl⟩ := look_one e'
      rw [upd_same]
      exact ⟨hown _ _, fun hb => absurd rfl hb⟩
    · obtain ⟨rfl, rfl⟩ := look_one e1
      obtain ⟨rfl, rfl⟩ := look_one e2
      rfl
  obtain ⟨hI, hst⟩ := HInv.grow (S := H :: O) rfl hh (fun _ _ _ e => e) (fun n' h => by
    cases hl : look [(nm, Ob.arr e z 0 [] true)] n' with
    | none => exact absurd hl h
    | some ob => obtain ⟨rfl, rfl⟩ := look_one hl; exact hf) hg
  have hbn : nm ≠ b := fun e' => by subst e'; rw [hf] at hb; cases hb
  have hb' : look ((nm, Ob.arr e z 0 [] true) :: H) b = some (.box (pre ++ .i (.v (.slice none 0 0)) :: post)) := by rw [look_cons, if_neg hbn]; exact hb
  have hI2 : HInv c.E K (upd ρ nm l0) (((b, .box (pre ++ .osl 0 nm :: post)) :: (nm, .arr e z 0 [] true) :: H) :: O) w := by
    refine HInv.rebox hI hb' fun vs hv => hv.mid fun v h1 => ?_
    rw [inv_v h1]
    have := RepD.osl (K := K) (ρ := upd ρ nm l0) (sh := shape (((nm, Ob.arr e z 0 [] true) :: H) :: O)) (dep := 0) (nm := nm) (es := z) (len := 0) (by simp [shape, objAt, look_cons, Ob.sh])
    rw [upd_same] at this
    exact this
  have hsh : shape (((b, .box (pre ++ .osl 0 nm :: post)) :: (nm, .arr e z 0 [] true) :: H) :: O) = shape (((nm, Ob.arr e z 0 [] true) :: H) :: O) := shape_over hb' rfl
  refine ⟨K, upd ρ nm l0, hI2, hi.defers, hi.size, fun t' d e' => ?_⟩
  have := hi.slots _ _ e'
  rw [hS] at this
  show RepD K _ (shape (((b, .box (pre ++ .osl 0 nm :: post)) :: (nm, .arr e z 0 [] true) :: H) :: O)) _ _
  rw [hsh]
  exact this.stays hst
theorem wk_nilbox (b nm e z : Nat) (hS : s.S = H :: O) (hb : look H b = some (.box [.i (.v (.slice none 0 0))])) (hf : look H nm = none) : Wk c s { σ := s.σ, S := ((b, .box [.osl 0 nm]) :: (nm, .arr e z 0 [] true) :: H) :: O, n := s.n } := wk_nilbox2 b nm e z (pre := []) (post := []) hS hb hf
end
end Go.AI


namespace Go.AI
open Go.Proofs
set_option maxRecDepth 20000
def kindOp (op : Int) (l : List Int) : Int :=
  if op = 0 ∨ op = 1 then 1 else
  if op = 2 ∨ op = 3 ∨ op = 4 ∨ op = 5 then (if l.all (· = 1) then 1 else 0) else
  if op = 6 ∨ op = 7 ∨ op = 8 ∨ op = 9 then (if l.all (· = 1) then 2 else 0) else
  if op = 10 ∨ op = 11 ∨ op = 12 then (if l.all (· = 2) then 2 else 0) else
  if op = 13 then (if l.getD 0 0 = 2 ∧ l.getD 1 0 = l.getD 2 0 then l.getD 1 0 else 0) else 0
mutual
def kindR : Ex → Int
  | .mk op _ _ args => match kindRs args with
    | some l => kindOp op l
    | none => 0
def kindRs : List Ex → Option (List Int)
  | [] => some []
  | e :: r => if kindR e = 0 then none else (kindRs r).map (kindR e :: ·)
end
theorem oints_app (l : List Int) (k : Int) : Ob.arr 3 1 (l.length + 1) ((l.map fun x => [vi x]) ++ [[vi k]]) true = oints (l ++ [k]) := by
  simp
end Go.AI


namespace Go.AI
open Go.Proofs
set_option maxRecDepth 20000
abbrev tr (p : Prop) [Decidable p] : Int := if p then 1 else 0
def ap2 (op a b : Int) : Int :=
  if op = 2 then a + b else if op = 3 then a - b else if op = 4 then a * b else
  if op = 6 then tr (a = b) else if op = 7 then tr (a ≠ b) else if op = 8 then tr (a < b) else if op = 9 then tr (a ≤ b) else
  if op = 11 then a * b else if a = 0 then b else a
def ap1 (op a : Int) : Int := if op = 5 then -a else 1 - a
def applyR (op : Int) : List Int → Int
  | [a] => ap1 op a
  | [a, b] => ap2 op a b
  | _ => 0
def checkX (x : Ex) (n : Int) : Int × Int :=
  if n < 0 ∨ n > 16 then (0, 2) else if (formR x n 1 0).1 ≠ 0 then (0, (formR x n 1 0).1) else if kindR x = 0 then (0, 16) else (kindR x, 0)
def typedX (x : Ex) (n kind : Int) : Int := if (checkX x n).2 = 0 ∧ (checkX x n).1 ≠ kind then 16 else (checkX x n).2
end Go.AI


namespace Go.AI
open Go.Proofs
set_option maxRecDepth 20000
abbrev largeB (a b : Int) : Bool := decide (b < a) || decide (a < -b)
mutual
def evalR (vals : List Int) : Ex → Int × Bool
  | .mk op v ix args =>
    if op = 0 then (v, true) else if op = 1 then (vals.getD ix.toNat 0, true) else if op = 13 then evalI vals args else
    match evalRs vals args with
    | none => (0, false)
    | some l => (applyR op l, !largeB (applyR op l) 1073741824)
def evalI (vals : List Int) : List Ex → Int × Bool
  | [c, a, b] => if (evalR vals c).2 = false then (0, false) else if (evalR vals c).1 = 1 then evalR vals a else evalR vals b
  | _ => (0, false)
def evalRs (vals : List Int) : List Ex → Option (List Int)
  | [] => some []
  | e :: r => if (evalR vals e).2 = false then none else (evalRs vals r).map ((evalR vals e).1 :: ·)
end
section
variable {n : Int} {vals : List Int} (hn : (vals.length : Int) = n) (hv : ∀ x ∈ vals, -65536 ≤ x ∧ x ≤ 65536)
include hn hv
end
end Go.AI


namespace Go.AI
open Go.Proofs
set_option maxRecDepth 20000
def evalX (x : Ex) (vals : List Int) : Int × Int :=
  if (checkX x vals.length).2 ≠ 0 then (0, (checkX x vals.length).2) else
  if vals.any (fun n => largeB n 65536) then (0, 2) else
  if (evalR vals x).2 = false then (0, 17) else ((evalR vals x).1, 0)
end Go.AI


namespace Go.AI
open Go.Proofs
set_option maxRecDepth 20000
structure Upd where
  v : Int
  x : Ex
structure Mv where
  frm : Int
  ev : Int
  to : Int
  g : Ex
  us : List Upd
structure Ext where
  alpha : List Int
  locs : Int
  init : Int
  marked : List Int
  vars : List Vr
  moves : List Mv
structure Sta where
  loc : Int
  vals : List Int
def mvOk (x : Mv) : Prop := exOk x.g ∧ x.us.length ≤ max63 ∧ ∀ u ∈ x.us, exOk u.x
structure extOk (m : Ext) : Prop where
  al : m.alpha.length ≤ max63
  ma : m.marked.length ≤ max63
  va : m.vars.length ≤ max63
  na : ∀ v ∈ m.vars, v.name.size ≤ max63
  mo : m.moves.length ≤ max63
  mv : ∀ x ∈ m.moves, mvOk x
def updErr (n : Int) : Option Int → List Upd → Int
  | _, [] => 0
  | prev, u :: r => if u.v < 0 ∨ u.v ≥ n then 2 else if prev.any (u.v ≤ ·) then 5 else if typedX u.x n 1 ≠ 0 then typedX u.x n 1 else updErr n (some u.v) r
def mvErr (m : Ext) (prev : Option Mv) (x : Mv) : Int :=
  if x.frm < 0 ∨ x.frm ≥ m.locs ∨ x.to < 0 ∨ x.to ≥ m.locs then 2 else
  if x.ev ∉ m.alpha then 9 else
  if prev.any (fun p => decide (x.frm < p.frm ∨ (x.frm = p.frm ∧ x.ev < p.ev))) then 5 else
  if typedX x.g m.vars.length 2 ≠ 0 then typedX x.g m.vars.length 2 else updErr m.vars.length none x.us
end Go.AI


namespace Go.AI
open Go.Proofs
set_option maxRecDepth 20000
theorem checkSet_sorted {n : Int} : ∀ {l : List Int} {p : Option Int}, checkSet n l p = 0 → l.Pairwise (· < ·) ∧ (∀ x ∈ l, 0 ≤ x ∧ x < n) ∧ ∀ y, p = some y → ∀ x ∈ l, y < x
  | [], p, _ => ⟨.nil, by simp, by simp⟩
  | x :: r, p, h => by
    simp only [checkSet] at h
    by_cases h1 : x < 0 ∨ x ≥ n
    · rw [if_pos h1] at h; cases h
    rw [if_neg h1] at h
    by_cases h2 : p.any (x ≤ ·) = true
    · rw [if_pos h2] at h; cases h
    rw [if_neg h2] at h
    obtain ⟨a, b, c⟩ := checkSet_sorted h
    refine ⟨List.pairwise_cons.2 ⟨c x rfl, a⟩, fun y hy => ?_, fun y hp z hz => ?_⟩
    · rcases List.mem_cons.1 hy with rfl | hy
      · omega
      · exact b y hy
    · subst hp
      have hyx : y < x := by simpa using h2
      rcases List.mem_cons.1 hz with rfl | hz
      · exact hyx
      · have := c x rfl z hz; omega
def varsErr (l : List Vr) : Int := if l.length > 16 then 3 else checkVrs l l 0
def mvsErr (m : Ext) : Option Mv → List Mv → Int
  | _, [] => 0
  | prev, x :: r => if mvErr m prev x ≠ 0 then mvErr m prev x else mvsErr m (some x) r
def chk (m : Ext) : Int :=
  if checkSet 32 m.alpha none ≠ 0 then checkSet 32 m.alpha none else
  if m.locs < 1 ∨ m.locs > 64 ∨ m.init < 0 ∨ m.init ≥ m.locs then 2 else
  if checkSet m.locs m.marked none ≠ 0 then checkSet m.locs m.marked none else
  if varsErr m.vars ≠ 0 then varsErr m.vars else
  if m.moves.length > 256 then 3 else mvsErr m none m.moves
end Go.AI


namespace Go.AI
abbrev Edg := Int × Int × Int
structure Aut where
  alpha : List Int
  states : Int
  marked : List Int
  edges : List Edg
abbrev edgI (e : Edg) : List I := [vi e.1, vi e.2.1, vi e.2.2]
abbrev edgs (l : List Edg) : D := .i (.sl 3 l.length (l.map edgI))
abbrev autD (a : Aut) : D := .agg [ints a.alpha, ii a.states, ints a.marked, edgs a.edges]
def chkEds (alpha : List Int) (n : Int) : Option Edg → List Edg → Int
  | _, [] => 0
  | prev, x :: r => if x.1 < 0 ∨ x.1 ≥ n ∨ x.2.2 < 0 ∨ x.2.2 ≥ n then 2 else if x.2.1 ∉ alpha then 9 else
    if prev.any (fun y => decide (x.1 < y.1 ∨ x.1 = y.1 ∧ x.2.1 ≤ y.2.1)) = true then 5 else chkEds alpha n (some x) r
def chkA (a : Aut) : Int := if checkSet 32 a.alpha none ≠ 0 then checkSet 32 a.alpha none else if a.states < 0 then 2 else if a.states > 4096 then 3 else
  if checkSet a.states a.marked none ≠ 0 then checkSet a.states a.marked none else chkEds a.alpha a.states none a.edges
def ltE (x y : Edg) : Prop := x.1 < y.1 ∨ x.1 = y.1 ∧ x.2.1 < y.2.1
theorem ltE_trans {x y z : Edg} (h : ltE x y) (h' : ltE y z) : ltE x z := by
  unfold ltE at *
  omega
theorem chkEds_of {alpha : List Int} {n : Int} : ∀ {l : List Edg} {p : Option Edg}, l.Pairwise ltE → (∀ x ∈ l, (0 ≤ x.1 ∧ x.1 < n) ∧ (0 ≤ x.2.2 ∧ x.2.2 < n) ∧ x.2.1 ∈ alpha) → (∀ y, p = some y → ∀ x ∈ l, ltE y x) → chkEds alpha n p l = 0
  | [], _, _, _, _ => rfl
  | x :: r, p, hp, hb, hy => by
    rw [List.pairwise_cons] at hp
    have hx := hb x (by simp)
    simp only [chkEds]
    rw [if_neg (by omega), if_neg (by simpa using hx.2.2), if_neg]
    · exact chkEds_of hp.2 (fun z hz => hb z (by simp [hz])) (fun y e z hz => by cases e; exact hp.1 z hz)
    · cases p with
      | none => simp
      | some y =>
        have := hy y rfl x (by simp)
        unfold ltE at this
        simp only [Option.any_some, decide_eq_true_eq]
        omega
theorem chkEds_sorted {alpha : List Int} {n : Int} : ∀ {l : List Edg} {p : Option Edg}, chkEds alpha n p l = 0 → l.Pairwise ltE ∧ (∀ x ∈ l, (0 ≤ x.1 ∧ x.1 < n) ∧ (0 ≤ x.2.2 ∧ x.2.2 < n) ∧ x.2.1 ∈ alpha) ∧ ∀ y, p = some y → ∀ x ∈ l, ltE y x
  | [], p, _ => ⟨.nil, by simp, by simp⟩
  | x :: r, p, h => by
    simp only [chkEds] at h
    split at h
    · cases h
    rename_i h1
    split at h
    · cases h
    rename_i h2
    split at h
    · cases h
    rename_i h3
    obtain ⟨i1, i2, i3⟩ := chkEds_sorted h
    refine ⟨List.pairwise_cons.2 ⟨fun z hz => i3 x rfl z hz, i1⟩, ?_, ?_⟩
    · intro z hz
      rcases List.mem_cons.1 hz with rfl | hz
      · exact ⟨by omega, by omega, by simpa using h2⟩
      · exact i2 z hz
    · rintro y rfl z hz
      simp only [Option.any_some, decide_eq_true_eq] at h3
      have hxy : ltE y x := by unfold ltE; omega
      rcases List.mem_cons.1 hz with rfl | hz
      · exact hxy
      · exact ltE_trans hxy (i3 x rfl z hz)
def lowE (l : List Edg) (s : Int) : Nat := l.findIdx fun e => decide (s ≤ e.1)
def sortedF (l : List Edg) : Prop := l.Pairwise fun x y => x.1 ≤ y.1
theorem sortedF_of {l : List Edg} (h : l.Pairwise ltE) : sortedF l := h.imp fun {a b} h => by unfold ltE at h; omega
theorem lowE_le (l : List Edg) (s : Int) : lowE l s ≤ l.length := findIdx_le
theorem lowE_lt {l : List Edg} {s : Int} {j : Nat} (h : j < lowE l s) (hj : j < l.length) : l[j].1 < s := by
  have := List.not_of_lt_findIdx h
  simp only [decide_eq_false_iff_not] at this
  omega
theorem lowE_ge {l : List Edg} {s : Int} (hs : sortedF l) {j : Nat} (h : lowE l s ≤ j) (hj : j < l.length) : s ≤ l[j].1 := by
  have hl : lowE l s < l.length := by omega
  have h0 : decide (s ≤ (l[lowE l s]).1) = true := List.findIdx_getElem (p := fun e : Edg => decide (s ≤ e.1)) (w := hl)
  have h0 := of_decide_eq_true h0
  rcases Nat.lt_or_eq_of_le h with h | h
  · have := (List.pairwise_iff_getElem.1 hs) _ _ hl hj h
    omega
  · simp only [h] at h0
    exact h0
theorem lowE_mono {l : List Edg} (hs : sortedF l) {s t : Int} (h : s ≤ t) : lowE l s ≤ lowE l t := by
  rcases Nat.lt_or_ge (lowE l t) (lowE l s) with h1 | h1
  · have hl : lowE l t < l.length := by have := lowE_le l s; omega
    have a := lowE_lt h1 hl
    have b := lowE_ge hs (Nat.le_refl _) hl
    omega
  · exact h1
def outR (l : List Edg) (s : Int) : List Edg := (l.take (lowE l (s + 1))).drop (lowE l s)
theorem outR_len (l : List Edg) (s : Int) : (outR l s).length = lowE l (s + 1) - lowE l s := by
  have := lowE_le l (s + 1)
  unfold outR
  rw [List.length_drop, List.length_take]
  omega
theorem outR_get {l : List Edg} {s : Int} {j : Nat} (h : j < (outR l s).length) : ∃ h' : lowE l s + j < l.length, (outR l s)[j] = l[lowE l s + j] := by
  have h1 := outR_len l s
  have := lowE_le l (s + 1)
  refine ⟨by omega, ?_⟩
  simp only [outR, List.getElem_drop, List.getElem_take]
theorem outR_frm {l : List Edg} (hs : sortedF l) {s : Int} : ∀ x ∈ outR l s, x.1 = s := by
  intro x hx
  obtain ⟨j, hj, rfl⟩ := List.getElem_of_mem hx
  obtain ⟨h', e⟩ := outR_get hj
  rw [e]
  have h1 := lowE_ge hs (Nat.le_add_right (lowE l s) j) h'
  have h2 := lowE_lt (s := s + 1) (j := lowE l s + j) (by rw [outR_len] at hj; omega) h'
  omega
theorem outR_mem {l : List Edg} (hs : sortedF l) {x : Edg} (hx : x ∈ l) : x ∈ outR l x.1 := by
  obtain ⟨j, hj, rfl⟩ := List.getElem_of_mem hx
  have h1 : lowE l (l[j]).1 ≤ j := by
    rcases Nat.lt_or_ge j (lowE l (l[j]).1) with h | h
    · have := lowE_lt h hj; omega
    · exact h
  have h2 : j < lowE l ((l[j]).1 + 1) := by
    rcases Nat.lt_or_ge j (lowE l ((l[j]).1 + 1)) with h | h
    · exact h
    · have := lowE_ge hs h hj; omega
  have hlen : j - lowE l (l[j]).1 < (outR l (l[j]).1).length := by rw [outR_len]; omega
  obtain ⟨h', e⟩ := outR_get hlen
  rw [List.mem_iff_getElem]
  refine ⟨_, hlen, ?_⟩
  rw [e]
  congr 1
  omega
theorem outR_sub {l : List Edg} {s : Int} : ∀ x ∈ outR l s, x ∈ l := fun x hx => List.mem_of_mem_take (List.mem_of_mem_drop hx)
end Go.AI


namespace Go.AI
def mrgR (k : Bool → Bool → Bool) (a b : List Int) : List Int := match a, b with
  | [], [] => []
  | x :: a, [] => (if k true false = true then [x] else []) ++ mrgR k a []
  | [], y :: b => (if k false true = true then [y] else []) ++ mrgR k [] b
  | x :: a, y :: b => if x < y then (if k true false = true then [x] else []) ++ mrgR k a (y :: b) else if y < x then (if k false true = true then [y] else []) ++ mrgR k (x :: a) b else (if k true true = true then [x] else []) ++ mrgR k a b
termination_by a.length + b.length
theorem mrg_spec (k : Bool → Bool → Bool) : ∀ (n : Nat) (a b : List Int), a.length + b.length ≤ n → a.Pairwise (· < ·) → b.Pairwise (· < ·) →
    (∀ x, x ∈ mrgR k a b ↔ (x ∈ a ∨ x ∈ b) ∧ k (decide (x ∈ a)) (decide (x ∈ b)) = true) ∧ (mrgR k a b).Pairwise (· < ·) ∧ (mrgR k a b).length ≤ a.length + b.length
  | n, [], [], _, _, _ => by rw [mrgR]; simp
  | 0, _ :: _, _, h, _, _ => by simp at h
  | 0, [], _ :: _, h, _, _ => by simp at h
  | n + 1, x :: a, [], h, ha, hb => by
    rw [List.pairwise_cons] at ha
    obtain ⟨h1, h2, h3⟩ := mrg_spec k n a [] (by simp at h ⊢; omega) ha.2 hb
    have hx : x ∉ a := fun hx => by have := ha.1 x hx; omega
    rw [mrgR]
    refine ⟨fun z => ?_, ?_, ?_⟩
    · rw [List.mem_append, h1]
      by_cases e : z = x
      · subst e; cases hk : k true false <;> simp [hx, hk]
      · have : ¬ z ∈ (if k true false = true then [x] else []) := by split <;> simp [e]
        simp [this, e]
    · rw [List.pairwise_append]
      refine ⟨by split <;> simp, h2, fun p hp q hq => ?_⟩
      have hp : p = x := by split at hp <;> simp at hp; exact hp
      subst hp
      exact ha.1 q (by have := ((h1 q).1 hq).1; simpa using this)
    · rw [List.length_append]
      have : (if k true false = true then [x] else []).length ≤ 1 := by split <;> simp
      simp at h3 ⊢
      omega
  | n + 1, [], y :: b, h, ha, hb => by
    rw [List.pairwise_cons] at hb
    obtain ⟨h1, h2, h3⟩ := mrg_spec k n [] b (by simp at h ⊢; omega) ha hb.2
    have hx : y ∉ b := fun hx => by have := hb.1 y hx; omega
    rw [mrgR]
    refine ⟨fun z => ?_, ?_, ?_⟩
    · rw [List.mem_append, h1]
      by_cases e : z = y
      · subst e; cases hk : k false true <;> simp [hx, hk]
      · have : ¬ z ∈ (if k false true = true then [y] else []) := by split <;> simp [e]
        simp [this, e]
    · rw [List.pairwise_append]
      refine ⟨by split <;> simp, h2, fun p hp q hq => ?_⟩
      have hp : p = y := by split at hp <;> simp at hp; exact hp
      subst hp
      exact hb.1 q (by have := ((h1 q).1 hq).1; simpa using this)
    · rw [List.length_append]
      have : (if k false true = true then [y] else []).length ≤ 1 := by split <;> simp
      simp at h3 ⊢
      omega
  | n + 1, x :: a, y :: b, h, ha', hb' => by
    have ha := List.pairwise_cons.1 ha'
    have hb := List.pairwise_cons.1 hb'
    have hxa : x ∉ a := fun hx => by have := ha.1 x hx; omega
    have hyb : y ∉ b := fun hx => by have := hb.1 y hx; omega
    rw [mrgR]
    by_cases c1 : x < y
    · rw [if_pos c1]
      obtain ⟨h1, h2, h3⟩ := mrg_spec k n a (y :: b) (by simp at h ⊢; omega) ha.2 hb'
      have hxb : x ∉ y :: b := fun hx => by
        rcases List.mem_cons.1 hx with rfl | hx
        · omega
        · have := hb.1 x hx; omega
      refine ⟨fun z => ?_, ?_, ?_⟩
      · rw [List.mem_append, h1]
        by_cases e : z = x
        · subst e; cases hk : k true false <;> simp [hxa, hxb, hk]
        · have : ¬ z ∈ (if k true false = true then [x] else []) := by split <;> simp [e]
          simp [this, e]
      · rw [List.pairwise_append]
        refine ⟨by split <;> simp, h2, fun p hp q hq => ?_⟩
        have hp : p = x := by split at hp <;> simp at hp; exact hp
        subst hp
        rcases ((h1 q).1 hq).1 with hq | hq
        · exact ha.1 q hq
        · rcases List.mem_cons.1 hq with rfl | hq
          · exact c1
          · have := hb.1 q hq; omega
      · rw [List.length_append]
        have : (if k true false = true then [x] else []).length ≤ 1 := by split <;> simp
        simp at h3 ⊢
        omega
    · rw [if_neg c1]
      by_cases c2 : y < x
      · rw [if_pos c2]
        obtain ⟨h1, h2, h3⟩ := mrg_spec k n (x :: a) b (by simp at h ⊢; omega) ha' hb.2
        have hya : y ∉ x :: a := fun hx => by
          rcases List.mem_cons.1 hx with rfl | hx
          · omega
          · have := ha.1 y hx; omega
        refine ⟨fun z => ?_, ?_, ?_⟩
        · rw [List.mem_append, h1]
          by_cases e : z = y
          · subst e; cases hk : k false true <;> simp [hya, hyb, hk]
          · have : ¬ z ∈ (if k false true = true then [y] else []) := by split <;> simp [e]
            simp [this, e]
        · rw [List.pairwise_append]
          refine ⟨by split <;> simp, h2, fun p hp q hq => ?_⟩
          have hp : p = y := by split at hp <;> simp at hp; exact hp
          subst hp
          rcases ((h1 q).1 hq).1 with hq | hq
          · rcases List.mem_cons.1 hq with rfl | hq
            · exact c2
            · have := ha.1 q hq; omega
          · exact hb.1 q hq
        · rw [List.length_append]
          have : (if k false true = true then [y] else []).length ≤ 1 := by split <;> simp
          simp at h3 ⊢
          omega
      · rw [if_neg c2]
        have e : x = y := by omega
        subst e
        obtain ⟨h1, h2, h3⟩ := mrg_spec k n a b (by simp at h ⊢; omega) ha.2 hb.2
        refine ⟨fun z => ?_, ?_, ?_⟩
        · rw [List.mem_append, h1]
          by_cases e : z = x
          · subst e; cases hk : k true true <;> simp [hxa, hyb, hk]
          · have : ¬ z ∈ (if k true true = true then [x] else []) := by split <;> simp [e]
            simp [this, e]
        · rw [List.pairwise_append]
          refine ⟨by split <;> simp, h2, fun p hp q hq => ?_⟩
          have hp : p = x := by split at hp <;> simp at hp; exact hp
          subst hp
          rcases ((h1 q).1 hq).1 with hq | hq
          · exact ha.1 q hq
          · exact hb.1 q hq
        · rw [List.length_append]
          have : (if k true true = true then [x] else []).length ≤ 1 := by split <;> simp
          simp at h3 ⊢
          omega
theorem sorted_ext : ∀ {a b : List Int}, a.Pairwise (· < ·) → b.Pairwise (· < ·) → (∀ x, x ∈ a ↔ x ∈ b) → a = b
  | [], [], _, _, _ => rfl
  | [], y :: b, _, _, h => absurd ((h y).2 (by simp)) (by simp)
  | x :: a, [], _, _, h => absurd ((h x).1 (by simp)) (by simp)
  | x :: a, y :: b, ha, hb, h => by
    rw [List.pairwise_cons] at ha hb
    have hxy : x = y := by
      have h1 := (h x).1 (by simp)
      have h2 := (h y).2 (by simp)
      rcases List.mem_cons.1 h1 with e | e1
      · exact e
      rcases List.mem_cons.1 h2 with e | e2
      · exact e.symm
      have := hb.1 x e1
      have := ha.1 y e2
      omega
    subst hxy
    rw [sorted_ext ha.2 hb.2 fun z => ?_]
    have hz := h z
    simp only [List.mem_cons] at hz
    constructor
    · intro m
      rcases hz.1 (.inr m) with e | e
      · have := ha.1 z m; omega
      · exact e
    · intro m
      rcases hz.2 (.inr m) with e | e
      · have := hb.1 z m; omega
      · exact e
abbrev orK (p q : Bool) : Bool := p || q
abbrev minK (p q : Bool) : Bool := p && !q
theorem mrg_or {a b : List Int} (ha : a.Pairwise (· < ·)) (hb : b.Pairwise (· < ·)) (x : Int) : x ∈ mrgR orK a b ↔ x ∈ a ∨ x ∈ b := by
  rw [(mrg_spec orK _ a b (Nat.le_refl _) ha hb).1]
  simp [orK]
theorem mrg_same {a : List Int} (ha : a.Pairwise (· < ·)) : mrgR orK a a = a :=
  sorted_ext (mrg_spec orK _ a a (Nat.le_refl _) ha ha).2.1 ha fun x => by rw [mrg_or ha ha]; simp
theorem mrg_nil {a : List Int} (ha : a.Pairwise (· < ·)) : mrgR orK [] a = a :=
  sorted_ext (mrg_spec orK _ [] a (Nat.le_refl _) .nil ha).2.1 ha fun x => by rw [mrg_or .nil ha]; simp
theorem mrg_sub {a b : List Int} (ha : a.Pairwise (· < ·)) (hb : b.Pairwise (· < ·)) : (mrgR minK a b).length = 0 ↔ ∀ x ∈ a, x ∈ b := by
  have h := (mrg_spec minK _ a b (Nat.le_refl _) ha hb).1
  rw [List.length_eq_zero_iff]
  constructor
  · intro e x hx
    have := h x
    rw [e] at this
    simp only [List.not_mem_nil, false_iff, not_and, minK] at this
    have := this (.inl hx)
    simpa [hx] using this
  · intro hs
    rw [List.eq_nil_iff_forall_not_mem]
    intro x hx
    have := (h x).1 hx
    simp only [minK, Bool.and_eq_true, decide_eq_true_eq, Bool.not_eq_true', decide_eq_false_iff_not] at this
    exact this.2.2 (hs x this.2.1)
end Go.AI


namespace Go.AI
open Go.Proofs
set_option maxRecDepth 20000
theorem or207 (O : List Heap) (p q : Bool) : ASpec Tryz.prog 207 [bb p, bb q] O (bb (orK p q)) [] O := by
  refine aspec_intro Tk Tryz.func207 rfl Tryz.call207 Tryz.ntmps207 (Nat.le_of_ble_eq_true rfl) fun E => ?_
  refine g_run Tk Tryz.func207 ?_
  first | refine g_cnd Tk Tryz.func207 rfl (fun h1 => ?_) (fun h1 => ?_) | refine g_know Tk Tryz.func207 rfl (fun h1 => ?_) (fun h1 => ?_) | refine s_know Tk (fun h1 => ?_) (fun h1 => ?_)
  · subst h1
    refine g_ret Tk (r := bb true) rfl rfl rfl trivial rfl rfl ?_
    rfl
  · subst h1
    refine g_ret Tk (r := bb q) rfl rfl rfl trivial rfl rfl ?_
    rfl
theorem min164 (O : List Heap) (p q : Bool) : ASpec Tryz.prog 164 [bb p, bb q] O (bb (minK p q)) [] O := by
  refine aspec_intro Tk Tryz.func164 rfl Tryz.call164 Tryz.ntmps164 (Nat.le_of_ble_eq_true rfl) fun E => ?_
  refine g_run Tk Tryz.func164 ?_
  first | refine g_cnd Tk Tryz.func164 rfl (fun h1 => ?_) (fun h1 => ?_) | refine g_know Tk Tryz.func164 rfl (fun h1 => ?_) (fun h1 => ?_) | refine s_know Tk (fun h1 => ?_) (fun h1 => ?_)
  · subst h1
    refine g_ret Tk (r := bb (!q)) rfl rfl rfl trivial rfl rfl ?_
    rfl
  · subst h1
    refine g_ret Tk (r := bb false) rfl rfl rfl trivial rfl rfl ?_
    rfl
set_option maxHeartbeats 4000000 in
theorem merge163 (k : Bool → Bool → Bool) (F : Nat) (hk : ∀ O p q, ASpec Tryz.prog F [bb p, bb q] O (bb (k p q)) [] O) (O : List Heap) (a b : List Int) (ha : a.length ≤ 1000000) (hb : b.length ≤ 1000000) :
    ASpec Tryz.prog 163 [ints a, ints b, .fn (.func F) [] []] O (ints (mrgR k a b)) [] O := by
  obtain ⟨RR, hRR⟩ : ∃ RR, RR = mrgR k a b := ⟨_, rfl⟩
  rw [← hRR]
  have hno : RR = [] ++ mrgR k a b := hRR
  refine aspec_stop [12] Tk Tryz.func163 rfl Tryz.call163 Tryz.ntmps163 (Nat.le_of_ble_eq_true rfl) fun E => ?_
  refine g_run Tk Tryz.func163 ?_
  refine g_loop ?_
  refine rch_wk (wk_nil 7 72 3 1 rfl rfl rfl) ?_
  refine rch_loop2 (fun x : List Int × List Int × List Int => [(0, ints x.1), (1, ints x.2.1), (2, .fn (.func F) [] []), (7, .osl 0 72)]) (fun x => [(72, oints x.2.2)]) (fun _ => O) 74
    (fun x => x.1.length ≤ 1000000 ∧ x.2.1.length ≤ 1000000 ∧ x.2.2.length + x.1.length + x.2.1.length ≤ 2000000 ∧ RR = x.2.2 ++ mrgR k x.1 x.2.1) (fun x => x.1.length + x.2.1.length) (a, b, [])
    ⟨ha, hb, by simp only [List.length_nil]; omega, hno⟩ ⟨rfl, rfl, rfl, rfl, trivial⟩ rfl ⟨rfl, trivial⟩ rfl rfl ?_
  clear hno ha hb hRR
  rintro ⟨a, b, out⟩ ⟨ha, hb, hl, hno⟩ ih
  simp only at ha hb hl hno
  rcases a with _ | ⟨x, a⟩ <;> rcases b with _ | ⟨y, b⟩
  · rw [mrgR, List.append_nil] at hno
    subst hno
    refine g_run Tk Tryz.func163 ?_
    repeat (first | refine gcT Tk Tryz.func163 rfl ?_ | refine gkT Tk Tryz.func163 rfl ?_ | refine skT Tk ?_ | refine gcF Tk Tryz.func163 rfl ?_ | refine gkF Tk Tryz.func163 rfl ?_ | refine skF Tk ?_)
    refine g_stop ?_
    refine rch_wk (wk_freeze 72 rfl rfl) ?_
    refine g_run Tk Tryz.func163 ?_
    refine g_go Tk Tryz.func163 ?_
    refine g_ret Tk (r := ints RR) rfl rfl rfl trivial rfl rfl ?_
    rfl
  · rw [mrgR] at hno
    simp only [List.length_cons, List.length_nil] at ha hb hl
    refine g_run Tk Tryz.func163 ?_
    repeat (first | refine gcT Tk Tryz.func163 rfl ?_ | refine gkT Tk Tryz.func163 rfl ?_ | refine skT Tk ?_ | refine gcF Tk Tryz.func163 rfl ?_ | refine gkF Tk Tryz.func163 rfl ?_ | refine skF Tk ?_)
    first | refine g_cnd Tk Tryz.func163 rfl (fun _ => ?_) (fun h => absurd h (by first | (simp; done) | (simp; omega))) | refine g_know Tk Tryz.func163 rfl (fun _ => ?_) (fun h => absurd h (by first | (simp; done) | (simp; omega))) | refine s_know Tk (fun _ => ?_) (fun h => absurd h (by first | (simp; done) | (simp; omega)))
    refine g_drawn Tk Tryz.func163 mixedT rfl ?_
    repeat (first | refine gcT Tk Tryz.func163 rfl ?_ | refine gkT Tk Tryz.func163 rfl ?_ | refine skT Tk ?_ | refine gcF Tk Tryz.func163 rfl ?_ | refine gkF Tk Tryz.func163 rfl ?_ | refine skF Tk ?_)
    refine e_done Tk Tryz.func163 (by kernel_rfl) ?_
    refine g_drawn Tk Tryz.func163 mixedT rfl ?_
    first | refine g_cnd Tk Tryz.func163 rfl (fun _ => ?_) (fun h => absurd h (by first | (simp; done) | (simp; omega))) | refine g_know Tk Tryz.func163 rfl (fun _ => ?_) (fun h => absurd h (by first | (simp; done) | (simp; omega))) | refine s_know Tk (fun _ => ?_) (fun h => absurd h (by first | (simp; done) | (simp; omega)))
    repeat (first | refine gcT Tk Tryz.func163 rfl ?_ | refine gkT Tk Tryz.func163 rfl ?_ | refine skT Tk ?_ | refine gcF Tk Tryz.func163 rfl ?_ | refine gkF Tk Tryz.func163 rfl ?_ | refine skF Tk ?_)
    refine e_done Tk Tryz.func163 (by kernel_rfl) ?_
    repeat (first | refine gcT Tk Tryz.func163 rfl ?_ | refine gkT Tk Tryz.func163 rfl ?_ | refine skT Tk ?_ | refine gcF Tk Tryz.func163 rfl ?_ | refine gkF Tk Tryz.func163 rfl ?_ | refine skF Tk ?_)
    refine g_drawn Tk Tryz.func163 mixedT rfl ?_
    first | refine g_need Tk Tryz.func163 (by exact ⟨by decide, by first | (simp; done) | (simp; omega)⟩) ?_ | refine s_need Tk (by exact ⟨by decide, by first | (simp; done) | (simp; omega)⟩) ?_
    first | refine g_elem Tk Tryz.func163 (rfl) ?_ | refine s_elem Tk (rfl) ?_
    first | refine g_need Tk Tryz.func163 (by exact ⟨by decide, by first | (simp; done) | (simp; omega)⟩) ?_ | refine s_need Tk (by exact ⟨by decide, by first | (simp; done) | (simp; omega)⟩) ?_
    refine e_done Tk Tryz.func163 (by kernel_rfl) ?_
    first | refine g_call Tk Tryz.func163 (hk _ false true) rfl rfl rfl rfl rfl ?_ | refine s_callq Tk (fun _ => hk _ false true) rfl rfl rfl ?_
    first | refine g_cnd Tk Tryz.func163 rfl (fun c => ?_) (fun c => ?_) | refine g_know Tk Tryz.func163 rfl (fun c => ?_) (fun c => ?_) | refine s_know Tk (fun c => ?_) (fun c => ?_)
    · have c : k false true = true := c
      rw [if_pos c, ← List.append_assoc] at hno
      first | refine g_need Tk Tryz.func163 (by exact ⟨by show (out.length + 1) * 8 ≤ 140737488355328; omega, by show out.length + 1 ≤ 9223372036854775807; omega⟩) ?_ | refine s_need Tk (by exact ⟨by show (out.length + 1) * 8 ≤ 140737488355328; omega, by show out.length + 1 ≤ 9223372036854775807; omega⟩) ?_
      refine g_loop ?_
      exact ih ([], b, out ++ [y]) _ _ ⟨Nat.zero_le _, by simp only; omega, by simp only [List.length_append, List.length_singleton, List.length_nil]; omega, hno⟩ (by first | (simp; done) | (simp; omega)) ⟨rfl, rfl, rfl, rfl, trivial⟩ rfl ⟨congrArg some (oints_app out y), trivial⟩ rfl rfl
    · have c : ¬ k false true = true := by rw [show k false true = false from c]; decide
      rw [if_neg c] at hno
      refine g_loop ?_
      exact ih ([], b, out) _ _ ⟨Nat.zero_le _, by simp only; omega, by simp only [List.length_nil]; omega, hno⟩ (by first | (simp; done) | (simp; omega)) ⟨rfl, rfl, rfl, rfl, trivial⟩ rfl ⟨rfl, trivial⟩ rfl rfl
  · rw [mrgR] at hno
    simp only [List.length_cons, List.length_nil] at ha hb hl
    refine g_run Tk Tryz.func163 ?_
    first | refine g_cnd Tk Tryz.func163 rfl (fun _ => ?_) (fun h => absurd h (by first | (simp; done) | (simp; omega))) | refine g_know Tk Tryz.func163 rfl (fun _ => ?_) (fun h => absurd h (by first | (simp; done) | (simp; omega))) | refine s_know Tk (fun _ => ?_) (fun h => absurd h (by first | (simp; done) | (simp; omega)))
    repeat (first | refine gcT Tk Tryz.func163 rfl ?_ | refine gkT Tk Tryz.func163 rfl ?_ | refine skT Tk ?_ | refine gcF Tk Tryz.func163 rfl ?_ | refine gkF Tk Tryz.func163 rfl ?_ | refine skF Tk ?_)
    refine g_drawn Tk Tryz.func163 mixedT rfl ?_
    first | refine g_cnd Tk Tryz.func163 rfl (fun _ => ?_) (fun h => absurd h (by first | (simp; done) | (simp; omega))) | refine g_know Tk Tryz.func163 rfl (fun _ => ?_) (fun h => absurd h (by first | (simp; done) | (simp; omega))) | refine s_know Tk (fun _ => ?_) (fun h => absurd h (by first | (simp; done) | (simp; omega)))
    repeat (first | refine gcT Tk Tryz.func163 rfl ?_ | refine gkT Tk Tryz.func163 rfl ?_ | refine skT Tk ?_ | refine gcF Tk Tryz.func163 rfl ?_ | refine gkF Tk Tryz.func163 rfl ?_ | refine skF Tk ?_)
    refine e_done Tk Tryz.func163 (by kernel_rfl) ?_
    refine g_drawn Tk Tryz.func163 mixedT rfl ?_
    repeat (first | refine gcT Tk Tryz.func163 rfl ?_ | refine gkT Tk Tryz.func163 rfl ?_ | refine skT Tk ?_ | refine gcF Tk Tryz.func163 rfl ?_ | refine gkF Tk Tryz.func163 rfl ?_ | refine skF Tk ?_)
    refine e_done Tk Tryz.func163 (by kernel_rfl) ?_
    repeat (first | refine gcT Tk Tryz.func163 rfl ?_ | refine gkT Tk Tryz.func163 rfl ?_ | refine skT Tk ?_ | refine gcF Tk Tryz.func163 rfl ?_ | refine gkF Tk Tryz.func163 rfl ?_ | refine skF Tk ?_)
    refine g_drawn Tk Tryz.func163 mixedT rfl ?_
    first | refine g_need Tk Tryz.func163 (by exact ⟨by decide, by first | (simp; done) | (simp; omega)⟩) ?_ | refine s_need Tk (by exact ⟨by decide, by first | (simp; done) | (simp; omega)⟩) ?_
    first | refine g_elem Tk Tryz.func163 (rfl) ?_ | refine s_elem Tk (rfl) ?_
    first | refine g_need Tk Tryz.func163 (by exact ⟨by decide, by first | (simp; done) | (simp; omega)⟩) ?_ | refine s_need Tk (by exact ⟨by decide, by first | (simp; done) | (simp; omega)⟩) ?_
    refine e_done Tk Tryz.func163 (by kernel_rfl) ?_
    repeat (first | refine gcT Tk Tryz.func163 rfl ?_ | refine gkT Tk Tryz.func163 rfl ?_ | refine skT Tk ?_ | refine gcF Tk Tryz.func163 rfl ?_ | refine gkF Tk Tryz.func163 rfl ?_ | refine skF Tk ?_)
    first | refine g_call Tk Tryz.func163 (hk _ true false) rfl rfl rfl rfl rfl ?_ | refine s_callq Tk (fun _ => hk _ true false) rfl rfl rfl ?_
    first | refine g_cnd Tk Tryz.func163 rfl (fun c => ?_) (fun c => ?_) | refine g_know Tk Tryz.func163 rfl (fun c => ?_) (fun c => ?_) | refine s_know Tk (fun c => ?_) (fun c => ?_)
    · have c : k true false = true := c
      rw [if_pos c, ← List.append_assoc] at hno
      first | refine g_need Tk Tryz.func163 (by exact ⟨by show (out.length + 1) * 8 ≤ 140737488355328; omega, by show out.length + 1 ≤ 9223372036854775807; omega⟩) ?_ | refine s_need Tk (by exact ⟨by show (out.length + 1) * 8 ≤ 140737488355328; omega, by show out.length + 1 ≤ 9223372036854775807; omega⟩) ?_
      refine g_loop ?_
      exact ih (a, [], out ++ [x]) _ _ ⟨by simp only; omega, Nat.zero_le _, by simp only [List.length_append, List.length_singleton, List.length_nil]; omega, hno⟩ (by first | (simp; done) | (simp; omega)) ⟨rfl, rfl, rfl, rfl, trivial⟩ rfl ⟨congrArg some (oints_app out x), trivial⟩ rfl rfl
    · have c : ¬ k true false = true := by rw [show k true false = false from c]; decide
      rw [if_neg c] at hno
      refine g_loop ?_
      exact ih (a, [], out) _ _ ⟨by simp only; omega, Nat.zero_le _, by simp only [List.length_nil]; omega, hno⟩ (by first | (simp; done) | (simp; omega)) ⟨rfl, rfl, rfl, rfl, trivial⟩ rfl ⟨rfl, trivial⟩ rfl rfl
  · rw [mrgR] at hno
    simp only [List.length_cons, List.length_nil] at ha hb hl
    refine g_run Tk Tryz.func163 ?_
    first | refine g_cnd Tk Tryz.func163 rfl (fun _ => ?_) (fun h => absurd h (by first | (simp; done) | (simp; omega))) | refine g_know Tk Tryz.func163 rfl (fun _ => ?_) (fun h => absurd h (by first | (simp; done) | (simp; omega))) | refine s_know Tk (fun _ => ?_) (fun h => absurd h (by first | (simp; done) | (simp; omega)))
    repeat (first | refine gcT Tk Tryz.func163 rfl ?_ | refine gkT Tk Tryz.func163 rfl ?_ | refine skT Tk ?_ | refine gcF Tk Tryz.func163 rfl ?_ | refine gkF Tk Tryz.func163 rfl ?_ | refine skF Tk ?_)
    refine g_drawn Tk Tryz.func163 mixedT rfl ?_
    first | refine g_cnd Tk Tryz.func163 rfl (fun _ => ?_) (fun h => absurd h (by first | (simp; done) | (simp; omega))) | refine g_know Tk Tryz.func163 rfl (fun _ => ?_) (fun h => absurd h (by first | (simp; done) | (simp; omega))) | refine s_know Tk (fun _ => ?_) (fun h => absurd h (by first | (simp; done) | (simp; omega)))
    first | refine g_cnd Tk Tryz.func163 rfl (fun h => absurd h (by first | (simp; done) | (simp; omega))) (fun _ => ?_) | refine g_know Tk Tryz.func163 rfl (fun h => absurd h (by first | (simp; done) | (simp; omega))) (fun _ => ?_) | refine s_know Tk (fun h => absurd h (by first | (simp; done) | (simp; omega))) (fun _ => ?_)
    first | refine g_need Tk Tryz.func163 (by exact ⟨by decide, by first | (simp; done) | (simp; omega)⟩) ?_ | refine s_need Tk (by exact ⟨by decide, by first | (simp; done) | (simp; omega)⟩) ?_
    first | refine g_elem Tk Tryz.func163 (rfl) ?_ | refine s_elem Tk (rfl) ?_
    first | refine g_need Tk Tryz.func163 (by exact ⟨by decide, by first | (simp; done) | (simp; omega)⟩) ?_ | refine s_need Tk (by exact ⟨by decide, by first | (simp; done) | (simp; omega)⟩) ?_
    first | refine g_elem Tk Tryz.func163 (rfl) ?_ | refine s_elem Tk (rfl) ?_
    refine e_done Tk Tryz.func163 (by kernel_rfl) ?_
    refine g_drawn Tk Tryz.func163 mixedT rfl ?_
    first | refine g_cnd Tk Tryz.func163 rfl (fun _ => ?_) (fun h => absurd h (by first | (simp; done) | (simp; omega))) | refine g_know Tk Tryz.func163 rfl (fun _ => ?_) (fun h => absurd h (by first | (simp; done) | (simp; omega))) | refine s_know Tk (fun _ => ?_) (fun h => absurd h (by first | (simp; done) | (simp; omega)))
    first | refine g_cnd Tk Tryz.func163 rfl (fun h => absurd h (by first | (simp; done) | (simp; omega))) (fun _ => ?_) | refine g_know Tk Tryz.func163 rfl (fun h => absurd h (by first | (simp; done) | (simp; omega))) (fun _ => ?_) | refine s_know Tk (fun h => absurd h (by first | (simp; done) | (simp; omega))) (fun _ => ?_)
    first | refine g_need Tk Tryz.func163 (by exact ⟨by decide, by first | (simp; done) | (simp; omega)⟩) ?_ | refine s_need Tk (by exact ⟨by decide, by first | (simp; done) | (simp; omega)⟩) ?_
    first | refine g_elem Tk Tryz.func163 (rfl) ?_ | refine s_elem Tk (rfl) ?_
    first | refine g_need Tk Tryz.func163 (by exact ⟨by decide, by first | (simp; done) | (simp; omega)⟩) ?_ | refine s_need Tk (by exact ⟨by decide, by first | (simp; done) | (simp; omega)⟩) ?_
    first | refine g_elem Tk Tryz.func163 (rfl) ?_ | refine s_elem Tk (rfl) ?_
    refine e_done Tk Tryz.func163 (by kernel_rfl) ?_
    by_cases c1 : x < y
    · rw [if_pos c1] at hno
      first | refine g_cnd Tk Tryz.func163 rfl (fun _ => ?_) (fun h => absurd h (by first | (simp; done) | (simp; omega))) | refine g_know Tk Tryz.func163 rfl (fun _ => ?_) (fun h => absurd h (by first | (simp; done) | (simp; omega))) | refine s_know Tk (fun _ => ?_) (fun h => absurd h (by first | (simp; done) | (simp; omega)))
      refine g_drawn Tk Tryz.func163 mixedT rfl ?_
      first | refine g_need Tk Tryz.func163 (by exact ⟨by decide, by first | (simp; done) | (simp; omega)⟩) ?_ | refine s_need Tk (by exact ⟨by decide, by first | (simp; done) | (simp; omega)⟩) ?_
      first | refine g_elem Tk Tryz.func163 (rfl) ?_ | refine s_elem Tk (rfl) ?_
      first | refine g_need Tk Tryz.func163 (by exact ⟨by decide, by first | (simp; done) | (simp; omega)⟩) ?_ | refine s_need Tk (by exact ⟨by decide, by first | (simp; done) | (simp; omega)⟩) ?_
      refine e_done Tk Tryz.func163 (by kernel_rfl) ?_
      first | refine g_cnd Tk Tryz.func163 rfl (fun h => absurd h (by first | (simp; done) | (simp; omega))) (fun _ => ?_) | refine g_know Tk Tryz.func163 rfl (fun h => absurd h (by first | (simp; done) | (simp; omega))) (fun _ => ?_) | refine s_know Tk (fun h => absurd h (by first | (simp; done) | (simp; omega))) (fun _ => ?_)
      first | refine g_call Tk Tryz.func163 (hk _ (decide (x ≤ y)) (decide (y ≤ x))) rfl rfl rfl rfl rfl ?_ | refine s_callq Tk (fun _ => hk _ (decide (x ≤ y)) (decide (y ≤ x))) rfl rfl rfl ?_
      have e0 : decide (x ≤ y) = true := decide_eq_true (by omega)
      have e : decide (y ≤ x) = false := decide_eq_false (by omega)
      first | refine g_cnd Tk Tryz.func163 rfl (fun c => ?_) (fun c => ?_) | refine g_know Tk Tryz.func163 rfl (fun c => ?_) (fun c => ?_) | refine s_know Tk (fun c => ?_) (fun c => ?_)
      · have c : k (decide (x ≤ y)) (decide (y ≤ x)) = true := c
        rw [e0, e] at c
        rw [if_pos c, ← List.append_assoc] at hno
        first | refine g_need Tk Tryz.func163 (by exact ⟨by show (out.length + 1) * 8 ≤ 140737488355328; omega, by show out.length + 1 ≤ 9223372036854775807; omega⟩) ?_ | refine s_need Tk (by exact ⟨by show (out.length + 1) * 8 ≤ 140737488355328; omega, by show out.length + 1 ≤ 9223372036854775807; omega⟩) ?_
        refine g_loop ?_
        exact ih (a, y :: b, out ++ [x]) _ _ ⟨by simp only; omega, by simp only [List.length_cons]; omega, by simp only [List.length_append, List.length_singleton, List.length_cons, List.length_nil]; omega, hno⟩ (by first | (simp; done) | (simp; omega)) ⟨rfl, rfl, rfl, rfl, trivial⟩ rfl ⟨congrArg some (oints_app out x), trivial⟩ rfl rfl
      · have c : k (decide (x ≤ y)) (decide (y ≤ x)) = false := c
        rw [e0, e] at c
        rw [if_neg (by rw [c]; decide)] at hno
        refine g_loop ?_
        exact ih (a, y :: b, out) _ _ ⟨by simp only; omega, by simp only [List.length_cons]; omega, by simp only [List.length_cons]; omega, hno⟩ (by first | (simp; done) | (simp; omega)) ⟨rfl, rfl, rfl, rfl, trivial⟩ rfl ⟨rfl, trivial⟩ rfl rfl
    · rw [if_neg c1] at hno
      by_cases c2 : y < x
      · rw [if_pos c2] at hno
        first | refine g_cnd Tk Tryz.func163 rfl (fun h => absurd h (by first | (simp; done) | (simp; omega))) (fun _ => ?_) | refine g_know Tk Tryz.func163 rfl (fun h => absurd h (by first | (simp; done) | (simp; omega))) (fun _ => ?_) | refine s_know Tk (fun h => absurd h (by first | (simp; done) | (simp; omega))) (fun _ => ?_)
        first | refine g_cnd Tk Tryz.func163 rfl (fun _ => ?_) (fun h => absurd h (by first | (simp; done) | (simp; omega))) | refine g_know Tk Tryz.func163 rfl (fun _ => ?_) (fun h => absurd h (by first | (simp; done) | (simp; omega))) | refine s_know Tk (fun _ => ?_) (fun h => absurd h (by first | (simp; done) | (simp; omega)))
        refine g_drawn Tk Tryz.func163 mixedT rfl ?_
        first | refine g_need Tk Tryz.func163 (by exact ⟨by decide, by first | (simp; done) | (simp; omega)⟩) ?_ | refine s_need Tk (by exact ⟨by decide, by first | (simp; done) | (simp; omega)⟩) ?_
        first | refine g_elem Tk Tryz.func163 (rfl) ?_ | refine s_elem Tk (rfl) ?_
        first | refine g_need Tk Tryz.func163 (by exact ⟨by decide, by first | (simp; done) | (simp; omega)⟩) ?_ | refine s_need Tk (by exact ⟨by decide, by first | (simp; done) | (simp; omega)⟩) ?_
        refine e_done Tk Tryz.func163 (by kernel_rfl) ?_
        first | refine g_call Tk Tryz.func163 (hk _ (decide (x ≤ y)) (decide (y ≤ x))) rfl rfl rfl rfl rfl ?_ | refine s_callq Tk (fun _ => hk _ (decide (x ≤ y)) (decide (y ≤ x))) rfl rfl rfl ?_
        have e1 : decide (x ≤ y) = false := decide_eq_false (by omega)
        have e2 : decide (y ≤ x) = true := decide_eq_true (by omega)
        first | refine g_cnd Tk Tryz.func163 rfl (fun c => ?_) (fun c => ?_) | refine g_know Tk Tryz.func163 rfl (fun c => ?_) (fun c => ?_) | refine s_know Tk (fun c => ?_) (fun c => ?_)
        · have c : k (decide (x ≤ y)) (decide (y ≤ x)) = true := c
          rw [e1, e2] at c
          rw [if_pos c, ← List.append_assoc] at hno
          first | refine g_need Tk Tryz.func163 (by exact ⟨by show (out.length + 1) * 8 ≤ 140737488355328; omega, by show out.length + 1 ≤ 9223372036854775807; omega⟩) ?_ | refine s_need Tk (by exact ⟨by show (out.length + 1) * 8 ≤ 140737488355328; omega, by show out.length + 1 ≤ 9223372036854775807; omega⟩) ?_
          refine g_loop ?_
          exact ih (x :: a, b, out ++ [y]) _ _ ⟨by simp only [List.length_cons]; omega, by simp only; omega, by simp only [List.length_append, List.length_singleton, List.length_cons, List.length_nil]; omega, hno⟩ (by first | (simp; done) | (simp; omega)) ⟨rfl, rfl, rfl, rfl, trivial⟩ rfl ⟨congrArg some (oints_app out y), trivial⟩ rfl rfl
        · have c : k (decide (x ≤ y)) (decide (y ≤ x)) = false := c
          rw [e1, e2] at c
          rw [if_neg (by rw [c]; decide)] at hno
          refine g_loop ?_
          exact ih (x :: a, b, out) _ _ ⟨by simp only [List.length_cons]; omega, by simp only; omega, by simp only [List.length_cons]; omega, hno⟩ (by first | (simp; done) | (simp; omega)) ⟨rfl, rfl, rfl, rfl, trivial⟩ rfl ⟨rfl, trivial⟩ rfl rfl
      · rw [if_neg c2] at hno
        have exy : x = y := by omega
        subst exy
        first | refine g_cnd Tk Tryz.func163 rfl (fun _ => ?_) (fun h => absurd h (by first | (simp; done) | (simp; omega))) | refine g_know Tk Tryz.func163 rfl (fun _ => ?_) (fun h => absurd h (by first | (simp; done) | (simp; omega))) | refine s_know Tk (fun _ => ?_) (fun h => absurd h (by first | (simp; done) | (simp; omega)))
        refine g_drawn Tk Tryz.func163 mixedT rfl ?_
        first | refine g_need Tk Tryz.func163 (by exact ⟨by decide, by first | (simp; done) | (simp; omega)⟩) ?_ | refine s_need Tk (by exact ⟨by decide, by first | (simp; done) | (simp; omega)⟩) ?_
        first | refine g_elem Tk Tryz.func163 (rfl) ?_ | refine s_elem Tk (rfl) ?_
        first | refine g_need Tk Tryz.func163 (by exact ⟨by decide, by first | (simp; done) | (simp; omega)⟩) ?_ | refine s_need Tk (by exact ⟨by decide, by first | (simp; done) | (simp; omega)⟩) ?_
        refine e_done Tk Tryz.func163 (by kernel_rfl) ?_
        first | refine g_cnd Tk Tryz.func163 rfl (fun _ => ?_) (fun h => absurd h (by first | (simp; done) | (simp; omega))) | refine g_know Tk Tryz.func163 rfl (fun _ => ?_) (fun h => absurd h (by first | (simp; done) | (simp; omega))) | refine s_know Tk (fun _ => ?_) (fun h => absurd h (by first | (simp; done) | (simp; omega)))
        refine g_drawn Tk Tryz.func163 mixedT rfl ?_
        first | refine g_need Tk Tryz.func163 (by exact ⟨by decide, by first | (simp; done) | (simp; omega)⟩) ?_ | refine s_need Tk (by exact ⟨by decide, by first | (simp; done) | (simp; omega)⟩) ?_
        first | refine g_elem Tk Tryz.func163 (rfl) ?_ | refine s_elem Tk (rfl) ?_
        first | refine g_need Tk Tryz.func163 (by exact ⟨by decide, by first | (simp; done) | (simp; omega)⟩) ?_ | refine s_need Tk (by exact ⟨by decide, by first | (simp; done) | (simp; omega)⟩) ?_
        refine e_done Tk Tryz.func163 (by kernel_rfl) ?_
        first | refine g_call Tk Tryz.func163 (hk _ (decide (x ≤ x)) (decide (x ≤ x))) rfl rfl rfl rfl rfl ?_ | refine s_callq Tk (fun _ => hk _ (decide (x ≤ x)) (decide (x ≤ x))) rfl rfl rfl ?_
        have e1 : decide (x ≤ x) = true := decide_eq_true (by omega)
        first | refine g_cnd Tk Tryz.func163 rfl (fun c => ?_) (fun c => ?_) | refine g_know Tk Tryz.func163 rfl (fun c => ?_) (fun c => ?_) | refine s_know Tk (fun c => ?_) (fun c => ?_)
        · have c : k (decide (x ≤ x)) (decide (x ≤ x)) = true := c
          rw [e1] at c
          rw [if_pos c, ← List.append_assoc] at hno
          first | refine g_need Tk Tryz.func163 (by exact ⟨by show (out.length + 1) * 8 ≤ 140737488355328; omega, by show out.length + 1 ≤ 9223372036854775807; omega⟩) ?_ | refine s_need Tk (by exact ⟨by show (out.length + 1) * 8 ≤ 140737488355328; omega, by show out.length + 1 ≤ 9223372036854775807; omega⟩) ?_
          refine g_loop ?_
          exact ih (a, b, out ++ [x]) _ _ ⟨by simp only; omega, by simp only; omega, by simp only [List.length_append, List.length_singleton]; omega, hno⟩ (by simp; omega) ⟨rfl, rfl, rfl, rfl, trivial⟩ rfl ⟨congrArg some (oints_app out x), trivial⟩ rfl rfl
        · have c : k (decide (x ≤ x)) (decide (x ≤ x)) = false := c
          rw [e1] at c
          rw [if_neg (by rw [c]; decide)] at hno
          refine g_loop ?_
          exact ih (a, b, out) _ _ ⟨by simp only; omega, by simp only; omega, by simp only; omega, hno⟩ (by simp; omega) ⟨rfl, rfl, rfl, rfl, trivial⟩ rfl ⟨rfl, trivial⟩ rfl rfl
set_option maxHeartbeats 1000000 in
theorem union175 (O : List Heap) (a b : List Int) (ha : a.length ≤ 1000000) (hb : b.length ≤ 1000000) : ASpec Tryz.prog 175 [ints a, ints b] O (ints (mrgR orK a b)) [] O := by
  have h1 := fun O => merge163 orK 207 or207 O a b ha hb
  generalize mrgR orK a b = R at *
  refine aspec_intro Tk Tryz.func175 rfl Tryz.call175 Tryz.ntmps175 (Nat.le_of_ble_eq_true rfl) fun E => ?_
  refine g_run Tk Tryz.func175 ?_
  first | refine g_call Tk Tryz.func175 (h1 _) rfl rfl rfl rfl rfl ?_ | refine s_callq Tk (fun _ => h1 _) rfl rfl rfl ?_
  refine g_ret Tk (r := ints R) rfl rfl rfl trivial rfl rfl ?_
  rfl
theorem minus117 (O : List Heap) (a b : List Int) (ha : a.length ≤ 1000000) (hb : b.length ≤ 1000000) : ASpec Tryz.prog 117 [ints a, ints b] O (ints (mrgR minK a b)) [] O := by
  have h1 := fun O => merge163 minK 164 min164 O a b ha hb
  generalize mrgR minK a b = R at *
  refine aspec_intro Tk Tryz.func117 rfl Tryz.call117 Tryz.ntmps117 (Nat.le_of_ble_eq_true rfl) fun E => ?_
  refine g_run Tk Tryz.func117 ?_
  first | refine g_call Tk Tryz.func117 (h1 _) rfl rfl rfl rfl rfl ?_ | refine s_callq Tk (fun _ => h1 _) rfl rfl rfl ?_
  refine g_ret Tk (r := ints R) rfl rfl rfl trivial rfl rfl ?_
  rfl
theorem subset69 (O : List Heap) (a b : List Int) (ha : a.length ≤ 1000000) (hb : b.length ≤ 1000000) : ASpec Tryz.prog 69 [ints a, ints b] O (bb (decide ((mrgR minK a b).length = 0))) [] O := by
  have h1 := fun O => minus117 O a b ha hb
  generalize mrgR minK a b = R at *
  refine aspec_intro Tk Tryz.func69 rfl Tryz.call69 Tryz.ntmps69 (Nat.le_of_ble_eq_true rfl) fun E => ?_
  refine g_run Tk Tryz.func69 ?_
  first | refine g_call Tk Tryz.func69 (h1 _) rfl rfl rfl rfl rfl ?_ | refine s_callq Tk (fun _ => h1 _) rfl rfl rfl ?_
  refine g_ret Tk (r := bb (((R.length : Nat) : Int) == 0)) rfl rfl rfl trivial rfl rfl ?_
  have : (((R.length : Nat) : Int) == 0) = decide (R.length = 0) := by
    by_cases c : R.length = 0
    · simp [c]
    · simp [c]
  rw [this]
end Go.AI


namespace Go.AI
section
variable {c : Cx} {s : St} {k : List Item} {ops : Array Oper} {rest : List Nat} {o : Oper}
theorem chain_take {c : Cx} {ops : Array Oper} {O : List Heap} {n : Nat} : ∀ {m : Nat} {l : List Oper} {qs : List Pl} {x : SH}, ChainS c ops O n (l.take m) qs x → ChainS c ops O n l qs x
  | 0, l, [], x, _ => by cases l <;> trivial
  | 0, l, _ :: _, x, h => by
    rw [List.take_zero] at h
    exact h.elim
  | m + 1, [], qs, x, h => by simpa using h
  | m + 1, o :: r, [], x, _ => trivial
  | m + 1, o :: r, p :: qs, x, h => by
    rw [List.take_succ_cons] at h
    exact ⟨h.1, chain_take h.2⟩
end
end Go.AI
