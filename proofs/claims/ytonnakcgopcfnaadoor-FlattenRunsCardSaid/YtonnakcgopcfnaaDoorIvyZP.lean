/- The layer of abstract runs, part 42. -/
import Derived.Test.YtonnakcgopcfnaaDoorIvyZO
import Derived.Shelf.Strings.Builder1
import Derived.Deep.Heap
import Derived.Shelf.RegionOpenPlain
import Derived.WalkKit
import Derived.Deep.RegionLaw
import Derived.Lib.Walk
import Derived.Lib.SliceRun
import Derived.KernelRfl
set_option linter.unusedSimpArgs false
set_option linter.unusedVariables false
set_option linter.all false

namespace Go.AI
open Go.Proofs
set_option maxRecDepth 20000
theorem equalStates32 (O : List Heap) (a b : Sta) (ha : a.vals.length ≤ max63) : ASpec Tryd.prog 66 [staD a, staD b] O (bb (decide (a = b))) [] O := by
  obtain ⟨al, av⟩ := a
  obtain ⟨bl, bv⟩ := b
  show ASpec Tryd.prog 66 [.agg [ii al, ints av], .agg [ii bl, ints bv]] O (bb (decide ((⟨al, av⟩ : Sta) = ⟨bl, bv⟩))) [] O
  simp only at ha
  have he := fun O => equal47 O av bv ha
  refine aspec_intro Tk Tryd.func66 rfl Tryd.call66 Tryd.ntmps66 (Nat.le_of_ble_eq_true rfl) fun E => ?_
  refine g_run Tk Tryd.func66 ?_
  first | refine g_cnd Tk Tryd.func66 rfl (fun h1 => ?_) (fun h1 => ?_) | refine g_know Tk Tryd.func66 rfl (fun h1 => ?_) (fun h1 => ?_) | refine s_know Tk (fun h1 => ?_) (fun h1 => ?_)
  · have h1 := beqT h1
    first | refine g_call Tk Tryd.func66 (he _) rfl rfl rfl rfl rfl ?_ | refine s_callq Tk (fun _ => he _) rfl rfl rfl ?_
    refine g_ret Tk (r := bb (decide (av = bv))) rfl rfl rfl trivial rfl rfl ?_
    subst h1
    by_cases h : av = bv
    · rw [decide_eq_true h, decide_eq_true (by rw [h])]
    · rw [decide_eq_false h, decide_eq_false fun e => h (congrArg Sta.vals e)]
  · have h1 := beqF h1
    rw [decide_eq_false fun e => h1 (congrArg Sta.loc e)]
    refine g_ret Tk (r := bb false) rfl rfl rfl trivial rfl rfl ?_
    rfl
/-- Marked. -/
def markR (m : Ext) (s : Sta) : Bool × Int := if ckS m s ≠ 0 then (false, ckS m s) else (decide (s.loc ∈ m.marked), 0)
theorem marked30 (O : List Heap) (m : Ext) (s : Sta) (hok : extOk m) : ASpec Tryd.prog 67 [extD m, staD s] O (.tup [bb (markR m s).1, ii (markR m s).2]) [] O := by
  have hck := fun O => checkState28 O m s hok
  have hs : ckS m s = 0 → m.marked.Pairwise (· < ·) := by
    intro h
    unfold ckS at h
    by_cases h1 : chk m ≠ 0
    · rw [if_pos h1] at h; exact absurd h h1
    · exact (checkSet_sorted (chk_right (by simpa using h1)).marked).1
  generalize hR : markR m s = R
  unfold markR at hR
  generalize ckS m s = c at *
  refine aspec_intro Tk Tryd.func67 rfl Tryd.call67 Tryd.ntmps67 (Nat.le_of_ble_eq_true rfl) fun E => ?_
  refine g_run Tk Tryd.func67 ?_
  first | refine g_call Tk Tryd.func67 (hck _) rfl rfl rfl rfl rfl ?_ | refine s_callq Tk (fun _ => hck _) rfl rfl rfl ?_
  first | refine g_cnd Tk Tryd.func67 rfl (fun h1 => ?_) (fun h1 => ?_) | refine g_know Tk Tryd.func67 rfl (fun h1 => ?_) (fun h1 => ?_) | refine s_know Tk (fun h1 => ?_) (fun h1 => ?_)
  · have h1 := bneT h1
    rw [if_pos h1] at hR
    subst hR
    refine g_ret Tk (r := .tup [bb false, ii c]) rfl rfl rfl trivial rfl rfl ?_
    rfl
  have h1 := bneF h1
  rw [if_neg (by simpa using h1)] at hR
  subst hR
  first | refine g_call Tk Tryd.func67 (contains49 _ m.marked s.loc hok.ma (hs h1)) rfl rfl rfl rfl rfl ?_ | refine s_callq Tk (fun _ => contains49 _ m.marked s.loc hok.ma (hs h1)) rfl rfl rfl ?_
  refine g_ret Tk (r := .tup [bb _, ii 0]) rfl rfl rfl trivial rfl rfl ?_
  rfl
/-- Step. -/
def stpR (m : Ext) (s : Sta) (ev : Int) : Sta × Bool × Int := if ckS m s ≠ 0 then (zeroS, false, ckS m s) else if ev ∉ m.alpha then (zeroS, false, 9) else stepR m s ev
theorem ckS_right {m : Ext} {s : Sta} (h : ckS m s = 0) : chk m = 0 ∧ s.vals.length = m.vars.length ∧ within m.vars s.vals = true ∧ 0 ≤ s.loc ∧ s.loc < m.locs := by
  unfold ckS at h
  by_cases h1 : chk m ≠ 0
  · rw [if_pos h1] at h; exact absurd h h1
  rw [if_neg h1] at h
  by_cases h2 : s.loc < 0 ∨ s.loc ≥ m.locs
  · rw [if_pos h2] at h; cases h
  rw [if_neg h2] at h
  by_cases h3 : s.vals.length ≠ m.vars.length
  · rw [if_pos h3] at h; cases h
  rw [if_neg h3] at h
  by_cases h4 : within m.vars s.vals = false
  · rw [if_pos h4] at h; cases h
  exact ⟨by simpa using h1, by simpa using h3, by simpa using h4, by omega, by omega⟩
theorem step31 (O : List Heap) (m : Ext) (s : Sta) (ev : Int) (hok : extOk m) : ASpec Tryd.prog 108 [extD m, staD s, ii ev] O (.tup [staD (stpR m s ev).1, bb (stpR m s ev).2.1, ii (stpR m s ev).2.2]) [] O := by
  have hck := fun O => checkState28 O m s hok
  have hs := @ckS_right m s
  have hst := fun O hr hl => step50 O m s ev hok hr hl
  generalize hR : stpR m s ev = R
  unfold stpR at hR
  generalize ckS m s = c at *
  refine aspec_intro Tk Tryd.func108 rfl Tryd.call108 Tryd.ntmps108 (Nat.le_of_ble_eq_true rfl) fun E => ?_
  refine g_run Tk Tryd.func108 ?_
  first | refine g_call Tk Tryd.func108 (hck _) rfl rfl rfl rfl rfl ?_ | refine s_callq Tk (fun _ => hck _) rfl rfl rfl ?_
  first | refine g_cnd Tk Tryd.func108 rfl (fun h1 => ?_) (fun h1 => ?_) | refine g_know Tk Tryd.func108 rfl (fun h1 => ?_) (fun h1 => ?_) | refine s_know Tk (fun h1 => ?_) (fun h1 => ?_)
  · have h1 := bneT h1
    rw [if_pos h1] at hR
    subst hR
    refine g_ret_co Tk (r := _) rfl rfl rfl trivial rfl rfl ?_
    exact coZ
  have h1 := bneF h1
  rw [if_neg (by simpa using h1)] at hR
  obtain ⟨h2, h3, -⟩ := hs h1
  have hr := chk_right h2
  first | refine g_call Tk Tryd.func108 (contains49 _ m.alpha ev hok.al (checkSet_sorted hr.alpha).1) rfl rfl rfl rfl rfl ?_ | refine s_callq Tk (fun _ => contains49 _ m.alpha ev hok.al (checkSet_sorted hr.alpha).1) rfl rfl rfl ?_
  first | refine g_cnd Tk Tryd.func108 rfl (fun h4 => ?_) (fun h4 => ?_) | refine g_know Tk Tryd.func108 rfl (fun h4 => ?_) (fun h4 => ?_) | refine s_know Tk (fun h4 => ?_) (fun h4 => ?_)
  · have h4 : ev ∉ m.alpha := by simpa using h4
    rw [if_pos h4] at hR
    subst hR
    refine g_ret_co Tk (r := _) rfl rfl rfl trivial rfl rfl ?_
    exact coZ
  have h4 : ev ∈ m.alpha := by simpa using h4
  rw [if_neg (by simpa using h4)] at hR
  subst hR
  have hst := fun O => hst O hr h3
  generalize stepR m s ev = n at *
  obtain ⟨⟨nl, nv⟩, np, ne⟩ := n
  first | refine g_call Tk Tryd.func108 (hst _) rfl rfl rfl rfl rfl ?_ | refine s_callq Tk (fun _ => hst _) rfl rfl rfl ?_
  refine g_ret Tk (r := .tup [staD ⟨nl, nv⟩, bb np, ii ne]) rfl rfl rfl trivial rfl rfl ?_
  rfl
end Go.AI


namespace Go.AI
open Go.Proofs
set_option maxRecDepth 20000
mutual
def esz : Ex → Nat
  | .mk _ _ _ args => 1 + eszs args
def eszs : List Ex → Nat
  | [] => 0
  | e :: r => esz e + eszs r
end
mutual
def edep : Ex → Nat
  | .mk _ _ _ args => 1 + edeps args
def edeps : List Ex → Nat
  | [] => 0
  | e :: r => max (edep e) (edeps r)
end
mutual
theorem formR_of : ∀ (x : Ex) (n : Int) (lvl c : Nat), wfE n x → c + esz x ≤ 64 → lvl + edep x ≤ 9 → formR x n lvl c = (0, ((c + esz x : Nat) : Int))
  | .mk op v ix args, n, lvl, c, hw, hc, hl => by
    simp only [esz] at hc ⊢
    simp only [edep] at hl
    simp only [wfE] at hw
    simp only [formR]
    rw [if_neg (by omega), if_neg (by rw [hw.1]; simp)]
    have := formRs_of args n (lvl + 1) (c + 1) hw.2 (by omega) (by omega)
    rw [show ((lvl : Int) + 1) = ((lvl + 1 : Nat) : Int) by omega, show ((c : Int) + 1) = ((c + 1 : Nat) : Int) by omega, this]
    rw [show c + (1 + eszs args) = c + 1 + eszs args by omega]
theorem formRs_of : ∀ (l : List Ex) (n : Int) (lvl c : Nat), wfEs n l → c + eszs l ≤ 64 → lvl + edeps l ≤ 9 → formRs l n lvl c = (0, ((c + eszs l : Nat) : Int))
  | [], n, lvl, c, _, _, _ => rfl
  | e :: r, n, lvl, c, hw, hc, hl => by
    simp only [eszs] at hc ⊢
    simp only [edeps] at hl
    simp only [wfEs] at hw
    simp only [formRs]
    have h1 := formR_of e n lvl c hw.1 (by omega) (by omega)
    rw [h1]
    simp only [ne_eq, not_true_eq_false, if_false]
    rw [formRs_of r n lvl (c + esz e) hw.2 (by omega) (by omega)]
    rw [show c + (esz e + eszs r) = c + esz e + eszs r by omega]
end
mutual
theorem exOk_wf : ∀ (x : Ex) (n : Int), wfE n x → exOk x
  | .mk op v ix args, n, h => by
    simp only [wfE] at h
    obtain ⟨_, h2, _⟩ := formHead_zero h.1
    have := arity_le op
    exact ⟨by simp only [max63]; omega, exOks_wf args n h.2⟩
theorem exOks_wf : ∀ (l : List Ex) (n : Int), wfEs n l → exOks l
  | [], _, _ => trivial
  | e :: r, n, h => by
    simp only [wfEs] at h
    exact ⟨exOk_wf e n h.1, exOks_wf r n h.2⟩
end
theorem typed_of {x : Ex} {n k : Int} (hn : 0 ≤ n) (hn2 : n ≤ 16) (hw : wfE n x) (hs : esz x ≤ 64) (hd : edep x ≤ 8) (hk : kindR x = k) (hk0 : k ≠ 0) : typedX x n k = 0 := by
  have h1 := formR_of x n 1 0 hw (by omega) (by omega)
  have h2 : checkX x n = (k, 0) := by
    unfold checkX
    have h1' : formR x n 1 0 = (0, ((0 + esz x : Nat) : Int)) := h1
    rw [if_neg (by omega), h1']
    rw [if_neg (by simp), if_neg (by rw [hk]; exact hk0), hk]
  unfold typedX
  rw [h2, if_neg (by simp)]
theorem fh2 {op n : Int} (h : op = 2 ∨ op = 3 ∨ op = 4 ∨ op = 6 ∨ op = 7 ∨ op = 8 ∨ op = 9 ∨ op = 11 ∨ op = 12) : formHead op 0 0 2 n = 0 := by
  rcases h with rfl | rfl | rfl | rfl | rfl | rfl | rfl | rfl | rfl <;> rfl
theorem fh1 {op n : Int} (h : op = 5 ∨ op = 10) : formHead op 0 0 1 n = 0 := by
  rcases h with rfl | rfl <;> rfl
theorem fh3 {n : Int} : formHead 13 0 0 3 n = 0 := rfl
/-- What a grown expression is like. -/
structure grown (vars : Int) (lv : Nat) (t : Bool) (k : Nat) (r : Ex × List Int × Nat) : Prop where
  wf : wfE vars r.1
  kind : kindR r.1 = tyOf t
  dep : edep r.1 ≤ lv + 2
  cnt : k < r.2.2
  sz : esz r.1 + 3 * min k 12 ≤ 3 * min r.2.2 12 + (if 12 ≤ k then 3 else if r.2.2 ≤ 12 then 0 else 6 * lv + 3)
theorem tyOf_ne (t : Bool) : tyOf t ≠ 0 := by cases t <;> decide
theorem kind1 {op : Int} {a : Ex} {t : Bool} {ka : Int} (ha : kindR a = ka) (h0 : ka ≠ 0) (hk : kindOp op [ka] = tyOf t) : kindR (.mk op 0 0 [a]) = tyOf t := by
  simp only [kindR, kindRs, ha, if_neg h0, Option.map_some]
  exact hk
theorem kind2 {op : Int} {a b : Ex} {t : Bool} {ka : Int} (ha : kindR a = ka) (hb : kindR b = ka) (h0 : ka ≠ 0) (hk : kindOp op [ka, ka] = tyOf t) : kindR (.mk op 0 0 [a, b]) = tyOf t := by
  simp only [kindR, kindRs, ha, hb, if_neg h0, Option.map_some]
  exact hk
theorem kind3 {a b c : Ex} {t : Bool} (ha : kindR a = 2) (hb : kindR b = tyOf t) (hc : kindR c = tyOf t) : kindR (.mk 13 0 0 [a, b, c]) = tyOf t := by
  simp only [kindR, kindRs, ha, hb, hc, if_neg (tyOf_ne t), Option.map_some]
  cases t <;> rfl
theorem leaf_grown {vars b : Int} (hv : 0 ≤ vars) (hb : byt b) : wfE vars (leafE vars b) ∧ kindR (leafE vars b) = 1 ∧ edep (leafE vars b) = 1 ∧ esz (leafE vars b) = 1 := by
  have := hb.h0
  have := hb.h1
  unfold leafE
  split
  · rename_i h
    have h1 := Int.emod_nonneg (b / 8) (show vars ≠ 0 by omega)
    have h2 := Int.emod_lt_of_pos (b / 8) h.2
    refine ⟨⟨?_, trivial⟩, rfl, rfl, rfl⟩
    show formHead 1 0 (b / 8 % vars) 0 vars = 0
    unfold formHead
    rw [if_neg (by decide), if_neg (by decide), if_neg (by simp), if_neg (by omega)]
  · refine ⟨⟨?_, trivial⟩, rfl, rfl, rfl⟩
    show formHead 0 (b / 8 - 8) 0 0 vars = 0
    unfold formHead
    rw [if_neg (by decide), if_neg (by decide), if_neg (by simp), if_neg (by omega)]
theorem truth_grown {vars : Int} (t : Bool) : wfE vars (truthE t) ∧ kindR (truthE t) = 2 ∧ edep (truthE t) = 2 ∧ esz (truthE t) = 3 := by
  cases t
  · exact ⟨⟨rfl, ⟨rfl, trivial⟩, ⟨rfl, trivial⟩, trivial⟩, rfl, rfl, rfl⟩
  · exact ⟨⟨rfl, ⟨rfl, trivial⟩, ⟨rfl, trivial⟩, trivial⟩, rfl, rfl, rfl⟩
theorem grow_leaf {vars : Int} {lv : Nat} {bs : List Int} {k : Nat} (h : 12 ≤ k) : growR vars lv true bs k = (leafE vars (b0 bs), bs.tail, k + 1) := by
  cases lv with
  | zero => simp only [growR]
  | succ lv => simp only [growR]; rw [if_pos (by omega)]
theorem grown_of {vars : Int} (hv : 0 ≤ vars) : ∀ (lv : Nat) (t : Bool) (bs : List Int) (k : Nat), byteOk bs → grown vars lv t k (growR vars lv t bs k) := by
  intro lv
  induction lv with
  | zero =>
    intro t bs k hb
    have hby : byt (b0 bs) := ⟨(b0_ok hb).1, (b0_ok hb).2⟩
    cases t with
    | true =>
      obtain ⟨a, b, c, d⟩ := leaf_grown hv hby
      simp only [growR]
      exact ⟨a, b, by simp only; omega, by simp only; omega, by simp only; split <;> (try split) <;> omega⟩
    | false =>
      obtain ⟨a, b, c, d⟩ := truth_grown (vars := vars) (decide (b0 bs % 2 = 0))
      simp only [growR]
      exact ⟨a, b, by simp only; omega, by simp only; omega, by simp only; split <;> (try split) <;> omega⟩
  | succ lv ih =>
    intro t bs k hb
    have hby : byt (b0 bs) := ⟨(b0_ok hb).1, (b0_ok hb).2⟩
    have hbt := byteOk_tail hb
    have ok := growR_ok vars lv
    have q3 : b0 bs / 8 % 3 = 0 ∨ b0 bs / 8 % 3 = 1 ∨ b0 bs / 8 % 3 = 2 := by omega
    have q4 : b0 bs / 8 % 4 = 0 ∨ b0 bs / 8 % 4 = 1 ∨ b0 bs / 8 % 4 = 2 ∨ b0 bs / 8 % 4 = 3 := by omega
    have q2 : b0 bs / 8 % 2 = 0 ∨ b0 bs / 8 % 2 = 1 := by omega
    have one : ∀ (t2 : Bool) (op : Int), op = 5 ∨ op = 10 → k < 12 → kindOp op [tyOf t2] = tyOf t → grown vars (lv + 1) t k (.mk op 0 0 [(growR vars lv t2 bs.tail (k + 1)).1], (growR vars lv t2 bs.tail (k + 1)).2) := by
      intro t2 op hop hk hkind
      have h1 := ih t2 bs.tail (k + 1) hbt
      have hsz := h1.sz
      have hcn := h1.cnt
      have hdp := h1.dep
      refine ⟨⟨fh1 hop, h1.wf, trivial⟩, kind1 h1.kind (tyOf_ne _) hkind, ?_, by simp only; omega, ?_⟩
      · simp only [edep, edeps]; omega
      · simp only [esz, eszs]
        split at hsz <;> (try split at hsz) <;> split <;> (try split) <;> omega
    have two : ∀ (t2 : Bool) (op : Int), (op = 2 ∨ op = 3 ∨ op = 4 ∨ op = 6 ∨ op = 7 ∨ op = 8 ∨ op = 9 ∨ op = 11 ∨ op = 12) → (12 ≤ k → t2 = true) → kindOp op [tyOf t2, tyOf t2] = tyOf t → grown vars (lv + 1) t k (.mk op 0 0 [(growR vars lv t2 bs.tail (k + 1)).1, (growR vars lv t2 (growR vars lv t2 bs.tail (k + 1)).2.1 (growR vars lv t2 bs.tail (k + 1)).2.2).1], (growR vars lv t2 (growR vars lv t2 bs.tail (k + 1)).2.1 (growR vars lv t2 bs.tail (k + 1)).2.2).2) := by
      intro t2 op hop hk hkind
      have h1 := ih t2 bs.tail (k + 1) hbt
      have o1 := ok t2 bs.tail (k + 1) hbt
      have l1 : 12 ≤ k → esz (growR vars lv t2 bs.tail (k + 1)).1 = 1 := fun h => by
        rw [hk h, grow_leaf (by omega)]
        exact (leaf_grown hv ⟨(b0_ok hbt).1, (b0_ok hbt).2⟩).2.2.2
      generalize growR vars lv t2 bs.tail (k + 1) = A at *
      have hcn := h1.cnt
      have h2 := ih t2 A.2.1 A.2.2 o1.b
      have l2 : 12 ≤ k → esz (growR vars lv t2 A.2.1 A.2.2).1 = 1 := fun h => by
        rw [hk h, grow_leaf (by omega)]
        exact (leaf_grown hv ⟨(b0_ok o1.b).1, (b0_ok o1.b).2⟩).2.2.2
      generalize growR vars lv t2 A.2.1 A.2.2 = B at *
      have hsz := h1.sz
      have hdp := h1.dep
      have hsz2 := h2.sz
      have hcn2 := h2.cnt
      have hdp2 := h2.dep
      refine ⟨⟨fh2 hop, h1.wf, h2.wf, trivial⟩, kind2 h1.kind h2.kind (tyOf_ne _) hkind, ?_, by simp only; omega, ?_⟩
      · simp only [edep, edeps]; omega
      · simp only [esz, eszs]
        by_cases hk12 : 12 ≤ k
        · rw [l1 hk12, l2 hk12, if_pos hk12]
          omega
        · rw [if_neg hk12]
          split at hsz <;> (try split at hsz) <;> split at hsz2 <;> (try split at hsz2) <;> split <;> omega
    have three : ∀ (t2 : Bool), t2 = t → k < 12 → grown vars (lv + 1) t k (.mk 13 0 0 [(growR vars lv false bs.tail (k + 1)).1, (growR vars lv t2 (growR vars lv false bs.tail (k + 1)).2.1 (growR vars lv false bs.tail (k + 1)).2.2).1,
        (growR vars lv t2 (growR vars lv t2 (growR vars lv false bs.tail (k + 1)).2.1 (growR vars lv false bs.tail (k + 1)).2.2).2.1 (growR vars lv t2 (growR vars lv false bs.tail (k + 1)).2.1 (growR vars lv false bs.tail (k + 1)).2.2).2.2).1],
        (growR vars lv t2 (growR vars lv t2 (growR vars lv false bs.tail (k + 1)).2.1 (growR vars lv false bs.tail (k + 1)).2.2).2.1 (growR vars lv t2 (growR vars lv false bs.tail (k + 1)).2.1 (growR vars lv false bs.tail (k + 1)).2.2).2.2).2) := by
      intro t2 e hk12
      subst e
      have h1 := ih false bs.tail (k + 1) hbt
      have o1 := ok false bs.tail (k + 1) hbt
      generalize growR vars lv false bs.tail (k + 1) = A at *
      have h2 := ih t2 A.2.1 A.2.2 o1.b
      have o2 := ok t2 A.2.1 A.2.2 o1.b
      generalize growR vars lv t2 A.2.1 A.2.2 = B at *
      have h3 := ih t2 B.2.1 B.2.2 o2.b
      generalize growR vars lv t2 B.2.1 B.2.2 = C at *
      have hsz := h1.sz
      have hcn := h1.cnt
      have hdp := h1.dep
      have hsz2 := h2.sz
      have hcn2 := h2.cnt
      have hdp2 := h2.dep
      have hsz3 := h3.sz
      have hcn3 := h3.cnt
      have hdp3 := h3.dep
      refine ⟨⟨fh3, h1.wf, h2.wf, h3.wf, trivial⟩, kind3 h1.kind h2.kind h3.kind, ?_, by simp only; omega, ?_⟩
      · simp only [edep, edeps]; omega
      · simp only [esz, eszs]
        rw [if_neg (by omega)]
        split at hsz <;> (try split at hsz) <;> split at hsz2 <;> (try split at hsz2) <;> split at hsz3 <;> (try split at hsz3) <;> split <;> omega
    cases t with
    | true =>
      simp only [growR]
      split
      · rename_i h
        obtain ⟨a, b, c, d⟩ := leaf_grown hv hby
        exact ⟨a, b, by simp only; omega, by simp only; omega, by simp only; split <;> (try split) <;> omega⟩
      · rename_i h
        split
        · exact one true 5 (.inl rfl) (by omega) rfl
        split
        · exact three true rfl (by omega)
        · refine two true _ (by omega) (fun _ => rfl) ?_
          rcases q3 with q | q | q <;> rw [q] <;> rfl
    | false =>
      simp only [growR]
      split
      · refine two true _ (by omega) (fun _ => rfl) ?_
        rcases q4 with q | q | q | q <;> rw [q] <;> rfl
      · rename_i h
        split
        · exact one false 10 (.inr rfl) (by omega) rfl
        split
        · exact three false rfl (by omega)
        · refine two false _ (by omega) (by omega) ?_
          rcases q2 with q | q <;> rw [q] <;> rfl
theorem grow_typed {vars : Int} (hv : 0 ≤ vars) (hv2 : vars ≤ 16) (t : Bool) {bs : List Int} (hb : byteOk bs) : typedX (growE vars t bs) vars (tyOf t) = 0 ∧ exOk (growE vars t bs) := by
  have h := grown_of hv 4 t (bs.take 60) 0 fun b hm => hb b (List.mem_of_mem_take hm)
  have hs := h.sz
  have hd := h.dep
  unfold growE
  refine ⟨typed_of hv hv2 h.wf ?_ (by omega) h.kind (tyOf_ne t), exOk_wf _ _ h.wf⟩
  rw [if_neg (by omega)] at hs
  split at hs <;> omega
end Go.AI


namespace Go.AI
open Go.Proofs
set_option maxRecDepth 20000
theorem checkSet_of {n : Int} : ∀ {l : List Int} {p : Option Int}, l.Pairwise (· < ·) → (∀ x ∈ l, 0 ≤ x ∧ x < n) → (∀ y, p = some y → ∀ x ∈ l, y < x) → checkSet n l p = 0
  | [], _, _, _, _ => rfl
  | x :: r, p, hs, hr, hp => by
    simp only [checkSet]
    have h1 := hr x (by simp)
    rw [if_neg (by omega), if_neg]
    · rw [List.pairwise_cons] at hs
      refine checkSet_of hs.2 (fun y hy => hr y (by simp [hy])) (fun y e z hz => ?_)
      simp only [Option.some.injEq] at e
      subst e
      exact hs.1 z hz
    · cases p with
      | none => simp
      | some y =>
        have := hp y rfl x (by simp)
        simp only [Option.any_some, decide_eq_true_eq]
        omega
theorem mrks_set (marks : Int) (L : Nat) : checkSet (L : Int) (mrks marks L) none = 0 := by
  refine checkSet_of ?_ (fun x hx => ?_) (by simp)
  · unfold mrks
    rw [List.pairwise_map]
    exact (List.Pairwise.filter _ List.pairwise_lt_range).imp fun h => by omega
  · unfold mrks at hx
    simp only [List.mem_map, List.mem_filter, List.mem_range] at hx
    obtain ⟨i, ⟨h1, _⟩, rfl⟩ := hx
    omega
/-- What is known of the variables of a sketch. -/
structure vrOk (v : Vr) : Prop where
  lo : -4 ≤ v.low
  hi : v.high ≤ 7
  w : v.low ≤ v.high ∧ v.high ≤ v.low + 3
  ini : v.low ≤ v.init ∧ v.init ≤ v.high
  nm : v.name.size = 2
theorem rngV_ok (i : Nat) {p : Int × Int} (hp : pairOk p) : vrOk (rngV i p) := by
  have h1 := Int.tmod_lt_of_pos p.1 (show (0 : Int) < 5 by decide)
  have h2 := Int.lt_tmod_of_pos p.1 (show (0 : Int) < 5 by decide)
  have h3 := Int.emod_nonneg (p.2 % 256 / 4) (show p.2 % 256 % 4 + 1 ≠ 0 by omega)
  have h4 := Int.emod_lt_of_pos (p.2 % 256 / 4) (show 0 < p.2 % 256 % 4 + 1 by omega)
  refine ⟨?_, ?_, ?_, ?_, nameR_size i⟩ <;> simp only [rngV] <;> omega
theorem rngsR_ok {l : List (Int × Int)} (h : ∀ p ∈ l, pairOk p) : ∀ v ∈ rngsR l, vrOk v := by
  intro v hv
  simp only [rngsR, List.mem_map, List.mem_range] at hv
  obtain ⟨i, hi, rfl⟩ := hv
  have : l.getD i (0, 0) = l[i]'(by omega) := by simp [show i < l.length by omega]
  rw [this]
  exact rngV_ok i (h _ (List.getElem_mem _))
theorem checkVr_ok {ds : List Vr} {v : Vr} (hn : isNameB v.name = true) (hd : ds.any (fun x => x.name.toList == v.name.toList) = false) (h : vrOk v) : checkVr ds v = none := by
  have := h.lo
  have := h.hi
  have := h.w
  have := h.ini
  unfold checkVr
  rw [if_neg (by rw [hn]; simp), if_neg (by rw [hd]; simp), if_neg, if_neg (by omega), if_neg (by omega)]
  simp only [checkVr.large, Bool.or_eq_true, decide_eq_true_eq]
  omega
theorem rngs_err {l : List (Int × Int)} (hl : l.length ≤ 2) (h : ∀ p ∈ l, pairOk p) : varsErr (rngsR l) = 0 := by
  have hlen : (rngsR l).length ≤ 2 := by rw [rngsR_len]; omega
  unfold varsErr
  rw [if_neg (by omega)]
  have hok := rngsR_ok h
  have n0 : isNameB (nameR 0) = true := by kernel_rfl
  have n1 : isNameB (nameR 1) = true := by kernel_rfl
  have n2 : ((nameR 0).toList == (nameR 1).toList) = false := by kernel_rfl
  match l, hl with
  | [], _ => rfl
  | [a], _ =>
    have e : rngsR [a] = [rngV 0 a] := rfl
    rw [e] at hok ⊢
    simp only [checkVrs]
    rw [checkVr_ok n0 (by simp) (hok _ (by simp))]
  | [a, b], _ =>
    have e : rngsR [a, b] = [rngV 0 a, rngV 1 b] := rfl
    rw [e] at hok ⊢
    simp only [checkVrs]
    rw [checkVr_ok n0 (by simp) (hok _ (by simp))]
    simp only
    rw [checkVr_ok n1 ?_ (hok _ (by simp))]
    simp only [List.take_succ_cons, List.take_zero, List.any_cons, List.any_nil, Bool.or_false]
    exact n2
/-- In order. -/
def leMv (x y : Mv) : Prop := ¬ (y.frm < x.frm ∨ (y.frm = x.frm ∧ y.ev < x.ev))
theorem leMv_trans {x y z : Mv} (h : leMv x y) (h' : leMv y z) : leMv x z := by unfold leMv at *; omega
theorem gtMv_iff {x y : Mv} : gtMv x y = true ↔ ¬ leMv x y := by
  unfold gtMv leMv
  rw [decide_eq_true_eq]
  omega
theorem posR_front {l : List Mv} {y : Mv} (hs : l.Pairwise leMv) : ∀ n, n ≤ l.length → (∀ x ∈ l.drop n, leMv y x) → (∀ x ∈ l.take (posR l y n), leMv x y) ∧ ∀ x ∈ l.drop (posR l y n), leMv y x
  | 0, _, h => ⟨by simp [posR], h⟩
  | n + 1, hn, h => by
    simp only [posR]
    rw [List.getElem?_eq_getElem (by omega)]
    simp only
    cases hg : gtMv l[n] y with
    | true =>
      rw [cond_true]
      refine posR_front hs n (by omega) fun x hx => ?_
      rw [List.drop_eq_getElem_cons (by omega)] at hx
      rcases List.mem_cons.1 hx with rfl | hx
      · have := gtMv_iff.1 hg
        unfold leMv at *
        omega
      · exact h x hx
    | false =>
      rw [cond_false]
      refine ⟨fun x hx => ?_, h⟩
      have hle : leMv l[n] y := by
        apply Classical.byContradiction
        intro hc
        rw [gtMv_iff.2 hc] at hg; cases hg
      rw [List.take_add_one, List.getElem?_eq_getElem (by omega)] at hx
      simp only [List.mem_append, Option.toList, List.mem_singleton] at hx
      rcases hx with hx | rfl
      · obtain ⟨j, hj, rfl⟩ := List.mem_take_iff_getElem.1 hx
        have hjn : j < n := by omega
        exact leMv_trans (List.pairwise_iff_getElem.1 hs j n (by omega) (by omega) hjn) hle
      · exact hle
theorem ins_sorted {l : List Mv} {y : Mv} (hs : l.Pairwise leMv) : (insMv l y).Pairwise leMv := by
  have h := posR_front (y := y) hs l.length (Nat.le_refl _) (by simp)
  unfold insMv
  rw [List.pairwise_append]
  refine ⟨hs.sublist (List.take_sublist _ _), ?_, ?_⟩
  · rw [List.pairwise_cons]
    exact ⟨h.2, hs.sublist (List.drop_sublist _ _)⟩
  · intro a ha b hb
    rcases List.mem_cons.1 hb with rfl | hb
    · exact h.1 a ha
    · exact leMv_trans (h.1 a ha) (h.2 b hb)
theorem ins_mem {l : List Mv} {y x : Mv} : x ∈ insMv l y → x ∈ l ∨ x = y := by
  unfold insMv
  intro h
  simp only [List.mem_append, List.mem_cons] at h
  rcases h with h | rfl | h
  · exact .inl (List.mem_of_mem_take h)
  · exact .inr rfl
  · exact .inl (List.mem_of_mem_drop h)
theorem mvsL_all {P : Mv → Prop} {locs n : Int} {l : List Lin} (h : ∀ x ∈ l, P (mvOf locs n x)) : ∀ i, i ≤ l.length → (mvsL locs n l i).Pairwise leMv ∧ ∀ y ∈ mvsL locs n l i, P y
  | 0, _ => by simp [mvsL]
  | i + 1, hi => by
    obtain ⟨h1, h2⟩ := mvsL_all h i (by omega)
    rw [mvsL_succ (by omega)]
    refine ⟨ins_sorted h1, fun y hy => ?_⟩
    rcases ins_mem hy with hy | rfl
    · exact h2 y hy
    · exact h _ (List.getElem_mem _)
/-- What a move of a sketch is like. -/
structure mvGood (L n : Int) (x : Mv) : Prop where
  frm : 0 ≤ x.frm ∧ x.frm < L
  to : 0 ≤ x.to ∧ x.to < L
  ev : x.ev = 0 ∨ x.ev = 1 ∨ x.ev = 2
  g : typedX x.g n 2 = 0
  us : x.us = [] ∨ ∃ u, x.us = [u] ∧ 0 ≤ u.v ∧ u.v < n ∧ typedX u.x n 1 = 0 ∧ exOk u.x
  gok : exOk x.g
theorem true_typed {n : Int} (h : 0 ≤ n) (h2 : n ≤ 16) : typedX trueE n 2 = 0 := typed_of h h2 ⟨rfl, ⟨rfl, trivial⟩, ⟨rfl, trivial⟩, trivial⟩ (by decide) (by decide) rfl (by decide)
theorem true_ok : exOk trueE := ⟨by simp [max63], ⟨Nat.zero_le _, trivial⟩, ⟨Nat.zero_le _, trivial⟩, trivial⟩
theorem mvOf_good {L n : Int} (hL : 0 < L) (hn : 0 ≤ n) (hn2 : n ≤ 16) {x : Lin} (hx : linOk x) : mvGood L n (mvOf L n x) := by
  obtain ⟨h0, h1, h2, hg, hgl, hu, hul⟩ := hx
  have hb0 := b0_ok hu
  refine ⟨⟨Int.emod_nonneg _ (by omega), Int.emod_lt_of_pos _ hL⟩, ⟨Int.emod_nonneg _ (by omega), Int.emod_lt_of_pos _ hL⟩, ?_, ?_, ?_, ?_⟩
  · show x.a1 % 3 = 0 ∨ x.a1 % 3 = 1 ∨ x.a1 % 3 = 2
    omega
  · show typedX (guardE n x.g) n 2 = 0
    unfold guardE
    split
    · exact (grow_typed hn hn2 false fun b hb => hg b (List.mem_of_mem_take hb)).1
    · exact true_typed hn hn2
  · show updsE n x.u = [] ∨ _
    unfold updsE
    split
    · rename_i h
      have ht := grow_typed hn hn2 true (bs := (x.u.take 12).drop 1) fun b hb => hu b (List.mem_of_mem_take (List.mem_of_mem_drop hb))
      have h2 : 0 < n := h.2
      exact .inr ⟨⟨b0 x.u % n, growE n true ((x.u.take 12).drop 1)⟩, (by show updsE n x.u = _; unfold updsE; rw [if_pos h]), Int.emod_nonneg _ (by omega), Int.emod_lt_of_pos _ h2, ht.1, ht.2⟩
    · exact .inl rfl
  · show exOk (guardE n x.g)
    unfold guardE
    split
    · exact (grow_typed hn hn2 false fun b hb => hg b (List.mem_of_mem_take hb)).2
    · exact true_ok
/-- What a sketched automaton is like. -/
structure made (m : Ext) : Prop where
  al : m.alpha = [0, 1, 2]
  lo : 1 ≤ m.locs ∧ m.locs ≤ 4
  ini : m.init = 0
  vl : m.vars.length ≤ 2
  v : ∀ v ∈ m.vars, vrOk v
  ml : m.moves.length ≤ 8
  mv : ∀ x ∈ m.moves, mvGood m.locs m.vars.length x
  sorted : m.moves.Pairwise leMv
  ve : varsErr m.vars = 0
  ma : checkSet m.locs m.marked none = 0
  mal : m.marked.length ≤ 4
theorem make_made {k : Sk} (hk : skOk k) : made (makeR k) := by
  have hl := hk.locs
  have hL : 1 ≤ locsR k ∧ locsR k ≤ 4 := by unfold locsR; omega
  have hp : ∀ p ∈ k.rngs.take 2, pairOk p := fun p h => hk.r p (List.mem_of_mem_take h)
  have hv2 : (rngsR (k.rngs.take 2)).length ≤ 2 := by rw [rngsR_len, List.length_take]; omega
  have hall := mvsL_all (P := mvGood (locsR k) (rngsR (k.rngs.take 2)).length) (locs := locsR k) (n := (rngsR (k.rngs.take 2)).length) (l := k.lines) (fun x hx => mvOf_good (by omega) (by omega) (by omega) (hk.l x hx)) (min k.lines.length 8) (by omega)
  have hml := mrks_len k.marks (locsR k)
  refine ⟨rfl, ⟨?_, ?_⟩, rfl, hv2, rngsR_ok hp, ?_, hall.2, hall.1, rngs_err (by rw [List.length_take]; omega) hp, mrks_set _ _, ?_⟩
  · show (1 : Int) ≤ (locsR k : Int); omega
  · show (locsR k : Int) ≤ 4; omega
  · show (mvsL _ _ _ _).length ≤ 8
    rw [mvsL_len (by omega)]; omega
  · show (mrks _ _).length ≤ 4; omega
theorem made_ok {m : Ext} (h : made m) : extOk m := by
  refine ⟨by rw [h.al]; simp [max63], ?_, ?_, fun v hv => ?_, ?_, fun x hx => ?_⟩
  · have := h.mal; simp only [max63]; omega
  · have := h.vl; simp only [max63]; omega
  · have := (h.v v hv).nm; simp only [max63]; omega
  · have := h.ml; simp only [max63]; omega
  · have hg := h.mv x hx
    refine ⟨hg.gok, ?_, fun u hu => ?_⟩
    · rcases hg.us with e | ⟨u, e, _⟩ <;> rw [e] <;> simp [max63]
    · rcases hg.us with e | ⟨u', e, h1⟩
      · rw [e] at hu; simp at hu
      · rw [e] at hu
        simp only [List.mem_singleton] at hu
        subst hu
        exact h1.2.2.2
theorem mvErr_of {m : Ext} (h : made m) {p : Option Mv} {x : Mv} (hx : mvGood m.locs m.vars.length x) (hp : ∀ y, p = some y → leMv y x) : mvErr m p x = 0 := by
  have h1 := hx.frm
  have h2 := hx.to
  have h3 := hx.ev
  unfold mvErr
  rw [if_neg (by omega), if_neg, if_neg, hx.g]
  · simp only [ne_eq, not_true_eq_false, if_false]
    rcases hx.us with e | ⟨u, e, h4, h5, h6, _⟩
    · rw [e]; rfl
    · rw [e]
      simp only [updErr]
      rw [if_neg (by omega), if_neg (by simp), h6]
      simp
  · cases p with
    | none => simp
    | some y =>
      have := hp y rfl
      unfold leMv at this
      simpa using this
  · rw [h.al]
    simp only [List.mem_cons, List.mem_nil_iff, or_false]
    exact not_not_intro h3
theorem mvsErr_of {m : Ext} (h : made m) : ∀ {l : List Mv} {p : Option Mv}, (∀ x ∈ l, mvGood m.locs m.vars.length x) → l.Pairwise leMv → (∀ y, p = some y → ∀ x ∈ l, leMv y x) → mvsErr m p l = 0
  | [], _, _, _, _ => rfl
  | x :: r, p, hx, hs, hp => by
    rw [List.pairwise_cons] at hs
    simp only [mvsErr]
    rw [mvErr_of h (hx x (by simp)) fun y e => hp y e x (by simp)]
    simp only [ne_eq, not_true_eq_false, if_false]
    refine mvsErr_of h (fun y hy => hx y (by simp [hy])) hs.2 fun y e z hz => ?_
    simp only [Option.some.injEq] at e
    subst e
    exact hs.1 z hz
theorem made_chk {m : Ext} (h : made m) : chk m = 0 := by
  have h1 := h.lo
  have h2 := h.ml
  unfold chk
  rw [h.al, h.ini, h.ma, h.ve, mvsErr_of h h.mv h.sorted (by simp)]
  rw [if_neg (by decide), if_neg (by omega), if_neg (by decide), if_neg (by decide), if_neg (by omega)]
end Go.AI


namespace Go.AI
open Go.Proofs
set_option maxRecDepth 20000
/-- Right values of a sketched automaton. -/
structure valsOk (m : Ext) (l : List Int) : Prop where
  len : l.length = m.vars.length
  w : within m.vars l = true
theorem within_get : ∀ {vs : List Vr} {l : List Int}, within vs l = true → ∀ (i : Nat) (h : i < vs.length) (h' : i < l.length), vs[i].low ≤ l[i] ∧ l[i] ≤ vs[i].high
  | v :: r, x :: ys, h, i, hi, hi' => by
    simp only [within, Bool.and_eq_true, decide_eq_true_eq] at h
    cases i with
    | zero => exact ⟨h.1.1, h.1.2⟩
    | succ i => exact within_get h.2 i (by simpa using hi) (by simpa using hi')
  | [], _, _, i, hi, _ => absurd hi (Nat.not_lt_zero _)
  | _ :: _, [], _, i, _, hi => absurd hi (Nat.not_lt_zero _)
end Go.AI


namespace Go.AI
open Go.Proofs
set_option maxRecDepth 20000
theorem made_right {m : Ext} (h : made m) : extRight m := chk_right (made_chk h)
end Go.AI


namespace Go.AI
open Go.Proofs
set_option maxRecDepth 20000
theorem checkSet_aux {n : Int} : ∀ {l : List Int} {y : Int}, checkSet n l (some y) = 0 → y + 1 ≤ n → (l.length : Int) ≤ n - 1 - y
  | [], y, _, h => by simp only [List.length_nil]; omega
  | x :: r, y, h, hy => by
    simp only [checkSet] at h
    by_cases h1 : x < 0 ∨ x ≥ n
    · rw [if_pos h1] at h; exact absurd h (by decide)
    rw [if_neg h1] at h
    by_cases h2 : (some y).any (x ≤ ·) = true
    · rw [if_pos h2] at h; exact absurd h (by decide)
    rw [if_neg h2] at h
    have hxy : y < x := by simpa using h2
    have := checkSet_aux h (by omega)
    simp only [List.length_cons]
    omega
theorem checkSet_len {n : Int} (hn : 0 ≤ n) : ∀ {l : List Int}, checkSet n l none = 0 → (l.length : Int) ≤ n
  | [], _ => by simpa using hn
  | x :: r, h => by
    simp only [checkSet] at h
    by_cases h1 : x < 0 ∨ x ≥ n
    · rw [if_pos h1] at h; exact absurd h (by decide)
    rw [if_neg h1] at h
    have h' : checkSet n r (some x) = 0 := by simpa using h
    have := checkSet_aux h' (by omega)
    simp only [List.length_cons]
    omega
end Go.AI


namespace Go.AI
open Go.Proofs
set_option maxRecDepth 20000
end Go.AI


namespace Go.AI
open Go.Proofs
set_option maxRecDepth 20000
def rangeI (lo hi : Int) : List Int := (List.range (hi - lo + 1).toNat).map fun (k : Nat) => lo + k
def allStep (out : List (List Int)) (v : Vr) : List (List Int) := out.flatMap fun vals => (rangeI v.low v.high).map fun n => vals ++ [n]
/-- All values of variables, in order. -/
def allV (l : List Vr) : List (List Int) := l.foldl allStep [[]]
theorem flat_len4 {α β : Type} {f : α → List β} : ∀ {l : List α}, (∀ x ∈ l, (f x).length ≤ 4) → (l.flatMap f).length ≤ 4 * l.length
  | [], _ => by simp
  | x :: r, h => by
    have h1 := h x (by simp)
    have h2 := flat_len4 (l := r) fun y hy => h y (by simp [hy])
    simp only [List.flatMap_cons, List.length_append, List.length_cons]
    omega
end Go.AI


/- Boxes, as plain data: containing, growing, covers. -/
namespace Go.AI
set_option maxRecDepth 20000
structure Bx where
  low : List Int
  high : List Int
def contB : List Int → List Int → List Int → Bool
  | v :: vs, l :: ls, h :: hs => !(decide (v < l) || decide (v > h)) && contB vs ls hs
  | _, _, _ => true
def Bx.has (b : Bx) (v : List Int) : Bool := contB v b.low b.high
def inBs (l : List Bx) (v : List Int) : Bool := l.any fun b => b.has v
def freeR (refused : List (List Int)) (b : Bx) : Bool := !refused.any b.has
/-! What a cover is. -/
/-- A box within another one. -/
def Bx.sub (a b : Bx) : Prop := a.low.length = b.low.length ∧ a.high.length = b.high.length ∧ (∀ i, b.low.getD i 0 ≤ a.low.getD i 0) ∧ ∀ i, a.high.getD i 0 ≤ b.high.getD i 0
theorem contB_mono : ∀ {v l h l' h' : List Int}, l.length = l'.length → h.length = h'.length → (∀ i, l'.getD i 0 ≤ l.getD i 0) → (∀ i, h.getD i 0 ≤ h'.getD i 0) → contB v l h = true → contB v l' h' = true
  | [], l, h, l', h', _, _, _, _, _ => by cases l' <;> cases h' <;> rfl
  | v :: vs, [], h, [], h', _, _, _, _, _ => by cases h' <;> rfl
  | v :: vs, [], h, _ :: _, h', e, _, _, _, _ => by cases e
  | v :: vs, _ :: _, h, [], h', e, _, _, _, _ => by cases e
  | v :: vs, l :: ls, [], l' :: ls', [], _, _, _, _, _ => rfl
  | v :: vs, l :: ls, [], l' :: ls', _ :: _, _, e, _, _, _ => by cases e
  | v :: vs, l :: ls, _ :: _, l' :: ls', [], _, e, _, _, _ => by cases e
  | v :: vs, l :: ls, h :: hs, l' :: ls', h' :: hs', e1, e2, e3, e4, g => by
    simp only [contB, Bool.and_eq_true, Bool.not_eq_true', Bool.or_eq_false_iff, decide_eq_false_iff_not] at g ⊢
    have a1 := e3 0
    have a2 := e4 0
    simp only [List.getD_cons_zero] at a1 a2
    refine ⟨⟨by omega, by omega⟩, contB_mono (by simpa using e1) (by simpa using e2) (fun i => by simpa using e3 (i + 1)) (fun i => by simpa using e4 (i + 1)) g.2⟩
theorem Bx.sub.has {a b : Bx} (h : a.sub b) {v : List Int} (g : a.has v = true) : b.has v = true := contB_mono h.1 h.2.1 h.2.2.1 h.2.2.2 g
/-- What all boxes of a list are. -/
structure CovOk (n : Nat) (refused : List (List Int)) (l : List Bx) : Prop where
  low : ∀ b ∈ l, b.low.length = n
  high : ∀ b ∈ l, b.high.length = n
  free : ∀ b ∈ l, freeR refused b = true
end Go.AI


/- Guards of boxes, as plain data: literals, joins, what they evaluate to. -/
namespace Go.AI
set_option maxRecDepth 20000
structure Lit where
  var : Nat
  lo : Int
  hi : Int
  fr : Bool
  to : Bool
/-- Values of variables. -/
def inV : List Vr → List Int → Prop
  | [], [] => True
  | v :: r, x :: xs => (v.low ≤ x ∧ x ≤ v.high) ∧ inV r xs
  | _, _ => False
end Go.AI


/- The domain of variables; covers, by tables. -/
namespace Go.AI
set_option maxRecDepth 20000
theorem inV_len : ∀ {l : List Vr} {v : List Int}, inV l v → v.length = l.length
  | [], [], _ => rfl
  | _ :: r, _ :: xs, h => by simp [inV_len h.2]
  | [], _ :: _, h => h.elim
  | _ :: _, [], h => h.elim
theorem inV_app : ∀ {l : List Vr} {v : List Int} {a : Vr} {n : Int}, v.length = l.length → (inV (l ++ [a]) (v ++ [n]) ↔ inV l v ∧ a.low ≤ n ∧ n ≤ a.high)
  | [], [], a, n, _ => by simp [inV]
  | b :: r, x :: xs, a, n, e => by
    have := inV_app (l := r) (v := xs) (a := a) (n := n) (by simpa using e)
    simp only [List.cons_append, inV, this]
    constructor
    · rintro ⟨h1, h2, h3⟩; exact ⟨⟨h1, h2⟩, h3⟩
    · rintro ⟨⟨h1, h2⟩, h3⟩; exact ⟨h1, h2, h3⟩
  | [], _ :: _, _, _, e => by cases e
  | _ :: _, [], _, _, e => by cases e
theorem mem_range {lo hi n : Int} : n ∈ rangeI lo hi ↔ lo ≤ n ∧ n ≤ hi := by
  unfold rangeI
  simp only [List.mem_map, List.mem_range]
  constructor
  · rintro ⟨k, hk, rfl⟩; omega
  · intro h; exact ⟨(n - lo).toNat, by omega, by omega⟩
theorem range_nodup (lo hi : Int) : (rangeI lo hi).Nodup := by
  unfold rangeI
  refine List.Pairwise.map _ ?_ List.nodup_range
  intro a b h e
  exact h (by omega)
/-- A list of values is the domain of variables. -/
structure DomOk (l : List Vr) (out : List (List Int)) : Prop where
  mem : ∀ v, v ∈ out ↔ inV l v
  nd : out.Nodup
theorem dom_step {l : List Vr} {out : List (List Int)} {a : Vr} (h : DomOk l out) : DomOk (l ++ [a]) (allStep out a) := by
  refine ⟨fun v => ?_, ?_⟩
  · unfold allStep
    simp only [List.mem_flatMap, List.mem_map]
    constructor
    · rintro ⟨w, hw, n, hn, rfl⟩
      have := (h.mem w).1 hw
      exact (inV_app (inV_len this)).2 ⟨this, mem_range.1 hn⟩
    · intro hv
      have hl := inV_len hv
      have hne : v ≠ [] := by intro e; subst e; simp at hl
      have e := List.dropLast_concat_getLast hne
      have hl2 : v.dropLast.length = l.length := by simp at hl ⊢; omega
      rw [← e] at hv
      obtain ⟨h1, h2⟩ := (inV_app hl2).1 hv
      exact ⟨_, (h.mem _).2 h1, _, mem_range.2 h2, e⟩
  · unfold allStep
    rw [List.nodup_iff_pairwise_ne, List.pairwise_flatMap]
    refine ⟨fun v _ => ?_, ?_⟩
    · refine List.Pairwise.map _ ?_ (List.nodup_iff_pairwise_ne.1 (range_nodup a.low a.high))
      intro x y hxy e
      exact hxy (by simpa using e)
    · refine List.Pairwise.imp ?_ (List.nodup_iff_pairwise_ne.1 h.nd)
      intro x y hxy u hu w hw e
      obtain ⟨n, _, rfl⟩ := List.mem_map.1 hu
      obtain ⟨k, _, rfl⟩ := List.mem_map.1 hw
      exact hxy (List.append_inj_left' e rfl)
theorem dom_fold : ∀ (r l : List Vr) (out : List (List Int)), DomOk l out → DomOk (l ++ r) (r.foldl allStep out)
  | [], l, out, h => by simpa using h
  | a :: r, l, out, h => by
    have := dom_fold r (l ++ [a]) (allStep out a) (dom_step h)
    simpa using this
theorem allV_dom (l : List Vr) : DomOk l (allV l) := by
  have := dom_fold l [] [[]] ⟨fun v => ?_, by simp⟩
  · simpa [allV] using this
  · cases v <;> simp [inV]
/-! Tables. -/
/-- What the cover of a table over a domain is. -/
structure CovR (l : List Vr) (all : List (List Int)) (t c : List Bool) (R : List Bx) : Prop where
  low : ∀ b ∈ R, b.low.length = l.length
  high : ∀ b ∈ R, b.high.length = l.length
  say : ∀ (i : Nat) v b, all[i]? = some v → t[i]? = some b → c[i]? = some true → inBs R v = b
  own : ∀ k1 b k2, R = k1 ++ b :: k2 → ∃ (i : Nat) (v : List Int), all[i]? = some v ∧ c[i]? = some true ∧ b.has v = true ∧ inBs (k1 ++ k2) v = false
end Go.AI


/- All, of any list of variables. -/
namespace Go.AI
open Go.Proofs
set_option maxRecDepth 20000
def Vr.w (v : Vr) : Int := v.high - v.low + 1
/-- The size of a domain, unless it is too large. -/
def cntR : List Vr → Int → Option Int
  | [], c => some c
  | v :: r, c => if c * v.w > 4096 then none else cntR r (c * v.w)
/-- All values, or the error. -/
def allG (l : List Vr) : List (List Int) × Int := if varsErr l ≠ 0 then ([], varsErr l) else match cntR l 1 with
  | none => ([], 3)
  | some _ => (allV l, 0)
end Go.AI


/- Tables of guards; boxes that contain values; equal lists. -/
namespace Go.AI
open Go.Proofs
set_option maxRecDepth 20000
abbrev bools (l : List Bool) : D := .i (.sl 1 l.length (l.map fun b => [.v (.bool b)]))
end Go.AI


/- Equal lists, boxes that contain values, searches in lists of boxes and of values. -/
namespace Go.AI
open Go.Proofs
set_option maxRecDepth 20000
theorem sameInts36 (O : List Heap) (a b : List Int) (ha : a.length ≤ max63) : ASpec Tryd.prog 36 [ints a, ints b] O (bb (decide (a = b))) [] O := by
  refine aspec_intro Tk Tryd.func36 rfl Tryd.call36 Tryd.ntmps36 (Nat.le_of_ble_eq_true rfl) fun E => ?_
  refine g_run Tk Tryd.func36 ?_
  first | refine g_cnd Tk Tryd.func36 rfl (fun h1 => ?_) (fun h1 => ?_) | refine g_know Tk Tryd.func36 rfl (fun h1 => ?_) (fun h1 => ?_) | refine s_know Tk (fun h1 => ?_) (fun h1 => ?_)
  · have h1 := bneT h1
    rw [decide_eq_false fun e => h1 (by rw [e])]
    refine g_ret Tk (r := bb false) rfl rfl rfl trivial rfl rfl ?_
    rfl
  have h1 := bneF h1
  have hlen : a.length = b.length := by
    have : ((a.length : Nat) : Int) = b.length := by simpa using h1
    omega
  refine g_loop ?_
  refine rch_loop2 (fun i : Nat => [(0, ints a), (1, ints b), (5, ii i)]) (fun _ => []) (fun _ => O) 26
    (fun i => i ≤ a.length ∧ ∀ (j : Nat) (h : j < a.length), j < i → a[j] = b[j]'(by omega)) (fun i => a.length - i) 0 ⟨Nat.zero_le _, fun j _ h => by omega⟩ ⟨rfl, rfl, rfl, trivial⟩ rfl trivial rfl rfl ?_
  rintro i ⟨hi, hno⟩ ih
  refine g_run Tk Tryd.func36 ?_
  first | refine g_cnd Tk Tryd.func36 rfl (fun h2 => ?_) (fun h2 => ?_) | refine g_know Tk Tryd.func36 rfl (fun h2 => ?_) (fun h2 => ?_) | refine s_know Tk (fun h2 => ?_) (fun h2 => ?_)
  · have h2 : i < a.length := by simpa using h2
    have ga : (a.map fun x => [vi x])[(i : Int).toNat]? = some [(fun x => vi x) a[i]] := get_mapZ (f := fun x => [vi x]) h2
    have gb : (b.map fun x => [vi x])[(i : Int).toNat]? = some [(fun x => vi x) (b[i]'(by omega))] := get_mapZ (f := fun x => [vi x]) (by omega)
    have hne : a[i] ≠ b[i]'(by omega) → a ≠ b := fun h e => by subst e; exact h rfl
    have hstep : a[i] = b[i]'(by omega) → ∀ (j : Nat) (h : j < a.length), j < i + 1 → a[j] = b[j]'(by omega) := fun h j hj hji => by
      by_cases e : j = i
      · subst e; exact h
      · exact hno j hj (by omega)
    generalize a[i] = x at *
    generalize b[i]'(by omega) = y at *
    refine g_drawn Tk Tryd.func36 mixedT rfl ?_
    first | refine g_need Tk Tryd.func36 (by exact ⟨by omega, by show (i : Int) < (a.length : Int); omega⟩) ?_ | refine s_need Tk (by exact ⟨by omega, by show (i : Int) < (a.length : Int); omega⟩) ?_
    first | refine g_elem Tk Tryd.func36 (ga) ?_ | refine s_elem Tk (ga) ?_
    first | refine g_need Tk Tryd.func36 (by exact ⟨by omega, by show (i : Int) < (b.length : Int); omega⟩) ?_ | refine s_need Tk (by exact ⟨by omega, by show (i : Int) < (b.length : Int); omega⟩) ?_
    first | refine g_elem Tk Tryd.func36 (gb) ?_ | refine s_elem Tk (gb) ?_
    refine e_done Tk Tryd.func36 (by kernel_rfl) ?_
    first | refine g_cnd Tk Tryd.func36 rfl (fun h3 => ?_) (fun h3 => ?_) | refine g_know Tk Tryd.func36 rfl (fun h3 => ?_) (fun h3 => ?_) | refine s_know Tk (fun h3 => ?_) (fun h3 => ?_)
    · have h3 : x ≠ y := by simpa using h3
      rw [decide_eq_false (hne h3)]
      refine g_ret Tk (r := bb false) rfl rfl rfl trivial rfl rfl ?_
      rfl
    · have h3 : x = y := by simpa using h3
      refine g_loop ?_
      exact ih (i + 1) _ _ ⟨h2, hstep h3⟩ (by omega) ⟨rfl, rfl, congrArg ii (wsucc h2 ha), trivial⟩ rfl trivial rfl rfl
  · have h2 : a.length ≤ i := by simpa using h2
    have : a = b := List.ext_getElem hlen fun j h h' => hno j h (by omega)
    rw [decide_eq_true this]
    refine g_ret Tk (r := bb true) rfl rfl rfl trivial rfl rfl ?_
    rfl
end Go.AI


/- Searches with closures; whether a box is free. -/
namespace Go.AI
open Go.Proofs
set_option maxRecDepth 20000
end Go.AI


/- Growing a box. -/
namespace Go.AI
open Go.Proofs
set_option maxRecDepth 20000
end Go.AI


/- The law's own: within, permitted, grow. -/
namespace Go.AI
open Go.Proofs
set_option maxRecDepth 20000
end Go.AI


/- The law's domain, table, bits. -/
namespace Go.AI
open Go.Proofs
set_option maxRecDepth 20000
end Go.AI


/- The law's table, bits, covered. -/
namespace Go.AI
open Go.Proofs
set_option maxRecDepth 20000
/-- What the law asks of variables. -/
structure domOk (l : List Vr) : Prop where
  len : l.length ≤ 16
  b : ∀ v ∈ l, (-65536 ≤ v.low ∧ v.high ≤ 65536) ∧ v.low ≤ v.high
  cnt : ∀ j, (allV (l.take j)).length ≤ 4096
theorem domOk.all {l : List Vr} (h : domOk l) : (allV l).length ≤ 4096 := by have := h.cnt l.length; rwa [List.take_length] at this
theorem allV_mem_len {l : List Vr} {v : List Int} (h : v ∈ allV l) : v.length = l.length := inV_len ((allV_dom l).mem v |>.1 h)
end Go.AI


/- The law's covered and cover. -/
namespace Go.AI
open Go.Proofs
set_option maxRecDepth 20000
end Go.AI


/- The law's cover. -/
namespace Go.AI
open Go.Proofs
set_option maxRecDepth 20000
theorem dom_bounds {l : List Vr} (h : domOk l) {v : List Int} (hv : v ∈ allV l) : ∀ j, -65536 ≤ v.getD j 0 ∧ v.getD j 0 ≤ 65536 := by
  have h1 := (allV_dom l).mem v |>.1 hv
  have hb := h.b
  clear h hv
  induction l generalizing v with
  | nil => cases v with
    | nil => intro j; simp
    | cons x xs => exact h1.elim
  | cons a r ih =>
    cases v with
    | nil => exact h1.elim
    | cons x xs =>
      intro j
      cases j with
      | zero => have := hb a (by simp); have := h1.1; simp only [List.getD_cons_zero]; omega
      | succ j => simpa using ih (v := xs) h1.2 (fun v hv => hb v (by simp [hv])) j
end Go.AI


/- strings.Builder, told whole: what a write changes, and that nothing else changes. -/
namespace Go.Proofs
open Go.Shelf Go.RowKit
variable {P : Program} {ρ : Ren}
theorem heap_set0 {w : World} {b : Nat} {p q v : Value} {T : TypeId} (h : w.heap[b]? = some (.cells #[p, v] T (0, 0))) : (w.setCell ⟨b, 0, none⟩ q).heap[b]? = some (.cells #[q, v] T (0, 0)) := by
  show (Array.modify _ _ _)[b]? = _
  rw [Array.getElem?_modify, if_pos rfl, h]
  rfl
theorem heap_set1 {w : World} {b : Nat} {p q v : Value} {T : TypeId} (h : w.heap[b]? = some (.cells #[p, v] T (0, 0))) : (w.setCell ⟨b, 1, none⟩ q).heap[b]? = some (.cells #[p, q] T (0, 0)) := by
  show (Array.modify _ _ _)[b]? = _
  rw [Array.getElem?_modify, if_pos rfl, h]
  rfl
theorem ownsRow_at {w w' : World} {e : TypeId} {v : Value} {n : Nat} {xs : List Value} (h : w.ownsRow 0 e 1 v n xs) (hb : ∀ k, v.ownBlock = some k → w'.heap[k]? = w.heap[k]?) : w'.ownsRow 0 e 1 v n xs := by
  refine ⟨h.1, ?_⟩
  rcases h.2 with h1 | ⟨g, cap, cur, rfl, h2, h3, h4⟩
  · exact .inl h1
  · exact .inr ⟨g, cap, cur, rfl, h2, by rw [hb g rfl]; exact h3, h4⟩
section
variable (w : World)
/-- Where the row of an append lies: where it lay, or in a new block. -/
def RowAt (w : World) (v v' : Value) : Prop := v'.ownBlock = v.ownBlock ∨ ∀ k, v'.ownBlock = some k → w.heap.size ≤ k
theorem append_str_law (t u ty e : TypeId) (i : TypeInfo) (ht : P.underlying t = some (.slice e)) (hu : P.underlying u = some .string) (hi : P.info? e = some i) (hz : i.zero = some (.int .u8 0))
    (hsize : i.size = 1) (hby : i.bytes = 1) (v : Value) (n : Nat) (xs : List Value) (hown : w.ownsRow 0 e 1 v n xs) (s : ByteArray) (h63 : n + s.size ≤ maxLen) (hbytes : n + s.size ≤ 140737488355328) :
    ∃ v' w', (Builtin.append_ #[t, u] ty #[v, .string s]).run P w = .ok v' w' ∧ w'.ownsRow 0 e 1 v' (n + s.size) (xs ++ Lib.strCells s) ∧ w.grownBy w' v.ownBlock ∧ RowAt w v v' := by
  obtain ⟨v', w', hr, h2, h3, -⟩ := Lib.run_append_own_string (P := P) w 0 t u ty e i ht hu hi hz hsize hby v n xs hown s h63 hbytes (Nat.zero_le _)
  refine ⟨v', w', hr, h2, h3, ?_⟩
  have hxl : xs.length = n := by simpa using hown.1
  rcases hown.2 with ⟨rfl, rfl⟩ | ⟨g, cap, cur, rfl, hbg, hg, hnc, hcm, hcs, htake⟩
  · obtain rfl : xs = [] := List.eq_nil_of_length_eq_zero hxl
    obtain ⟨v2, w2, hr2, h5, -⟩ := Lib.run_append_own_string (P := P) w w.heap.size t u ty e i ht hu hi hz hsize hby (.slice none 0 0) 0 [] (World.ownsRow_nil w _ e 1) s h63 hbytes (Nat.le_refl _)
    have e1 : v' = v2 := by have := hr.symm.trans hr2; injection this
    subst e1
    exact .inr fun k hk => (h5.lt k hk).1
  · by_cases hroom : n + s.size ≤ cap
    · have hr2 := Lib.run_append_room_string (P := P) w t u ty e i ht hu hi hsize g n cap cur hg s hroom (by omega)
      have e1 : v' = .slice (some ⟨g, 0, none⟩) (n + s.size) cap := by have := hr.symm.trans hr2; injection this
      subst e1
      exact .inl rfl
    · have holds : ∀ j u, xs[j]? = some u → w.cell? ((⟨g, 0, none⟩ : Addr).add j) = some u := hown.cells (g := g) rfl
      have hr2 := Lib.run_append_grow_string (P := P) w t u ty e i (.int .u8 0) ht hu hi hz ⟨g, 0, none⟩ n cap xs (by rw [hsize]; simpa using hxl) holds s (by omega) (by simp only [maxLen] at h63; omega) (by rw [hby]; exact growslice_fits (by omega) (by omega))
      have e1 : v' = .slice (some ⟨w.heap.size, 0, none⟩) (n + s.size) (grownCap w (n + s.size) cap e) := by have := hr.symm.trans hr2; injection this
      subst e1
      exact .inr fun k hk => by simp [Value.ownBlock] at hk; omega
theorem append_row_law (t ty e : TypeId) (i : TypeInfo) (ht : P.underlying t = some (.slice e)) (hi : P.info? e = some i) (hz : i.zero = some (.int .u8 0))
    (hsize : i.size = 1) (hby : i.bytes = 1) (v : Value) (n : Nat) (xs : List Value) (hown : w.ownsRow 0 e 1 v n xs)
    (a : Addr) (m c : Nat) (news : List Value) (hl : news.length = m * 1) (hnews : ∀ j u, news[j]? = some u → w.cell? (a.add j) = some u) (h1 : ∀ u ∈ news, u.oneCell' = true)
    (h63 : n + m ≤ maxLen) (hbytes : (n + m) * 1 ≤ 140737488355328) :
    ∃ v' w', (Builtin.append_ #[t, t] ty #[v, .slice (some a) m c]).run P w = .ok v' w' ∧ w'.ownsRow 0 e 1 v' (n + m) (xs ++ news) ∧ w.grownBy w' v.ownBlock ∧ RowAt w v v' := by
  obtain ⟨v', w', hr, h2, h3, -⟩ := run_append_own (P := P) w 0 t ty e i (.int .u8 0) 1 1 ht hi hz hsize hby rfl (by decide) v n xs hown a m c news hl hnews h1 h63 hbytes (Nat.zero_le _)
  refine ⟨v', w', hr, h2, h3, ?_⟩
  have hxl : xs.length = n := by simpa using hown.1
  rcases hown.2 with ⟨rfl, rfl⟩ | ⟨g, cap, cur, rfl, hbg, hg, hnc, hcm, hcs, htake⟩
  · obtain rfl : xs = [] := List.eq_nil_of_length_eq_zero hxl
    obtain ⟨v2, w2, hr2, h5, -⟩ := run_append_own (P := P) w w.heap.size t ty e i (.int .u8 0) 1 1 ht hi hz hsize hby rfl (by decide) (.slice none 0 0) 0 [] (World.ownsRow_nil w _ e 1) a m c news hl hnews h1 h63 hbytes (Nat.le_refl _)
    have e1 : v' = v2 := by have := hr.symm.trans hr2; injection this
    subst e1
    exact .inr fun k hk => (h5.lt k hk).1
  · by_cases hroom : n + m ≤ cap
    · have hr2 := run_append_room (P := P) w t ty e i ht hi g n cap cur hg a m c news (by rw [hsize]; exact hl) hnews h1 hroom (by rw [hsize]; omega)
      have e1 : v' = .slice (some ⟨g, 0, none⟩) (n + m) cap := by have := hr.symm.trans hr2; injection this
      subst e1
      exact .inl rfl
    · have holds : ∀ j u, xs[j]? = some u → w.cell? ((⟨g, 0, none⟩ : Addr).add j) = some u := hown.cells (g := g) rfl
      have hr2 := run_append_grow (P := P) w t ty e i (.int .u8 0) ht hi hz ⟨g, 0, none⟩ n cap xs (by rw [hsize]; simpa using hxl) holds a m c news (by rw [hsize]; exact hl) hnews (by omega) (by simp only [maxLen] at h63; omega) (by rw [hby]; exact growslice_fits (by omega) hbytes)
      have e1 : v' = .slice (some ⟨w.heap.size, 0, none⟩) (n + m) (grownCap w (n + m) cap e) := by have := hr.symm.trans hr2; injection this
      subst e1
      exact .inr fun k hk => by simp [Value.ownBlock] at hk; omega
theorem wpList_app_str {ops : Array Oper} {rest : List Oper} {o : Oper} {a : Act} {Q : Exit → Act → World → Prop} (hgd : o.guard = none) (sl x : Operand) (t u : TypeId)
    (ho : o.op = .call { callee := .builtin .append, args := #[sl, x], argTypes := #[t, u] })
    (e : TypeId) (i : TypeInfo) (ht : P.underlying t = some (.slice e)) (hu : P.underlying u = some .string) (hi : P.info? e = some i) (hz : i.zero = some (.int .u8 0)) (hsize : i.size = 1) (hby : i.bytes = 1)
    (v : Value) (n : Nat) (xs : List Value) (hs : a.eval sl = v) (hown : w.ownsRow 0 e 1 v n xs) (s : ByteArray) (hx : a.eval x = .string s) (h63 : n + s.size ≤ maxLen) (hbytes : n + s.size ≤ 140737488355328)
    (h : ∀ v' w', w'.ownsRow 0 e 1 v' (n + s.size) (xs ++ Lib.strCells s) → w.grownBy w' v.ownBlock → RowAt w v v' → wpList P ops Q rest (a.put o.dst v') w') : wpList P ops Q (o :: rest) a w := by
  refine wpList_plain hgd fun K hK => ?_
  obtain ⟨v', w', hr, h2, h3, h4⟩ := append_str_law (P := P) w t u o.type e i ht hu hi hz hsize hby v n xs hown s h63 hbytes
  unfold Oper.wp execOp
  simp only [ho, resolve, invoke, builtin, Sem.run_bind, Sem.run_pure, Result.andThen_ok, List.map_toArray, List.map_cons, List.map_nil, hs, hx, hr]
  exact hK _ _ (h v' w' h2 h3 h4)
theorem wpList_app_row {ops : Array Oper} {rest : List Oper} {o : Oper} {a : Act} {Q : Exit → Act → World → Prop} (hgd : o.guard = none) (sl x : Operand) (t : TypeId)
    (ho : o.op = .call { callee := .builtin .append, args := #[sl, x], argTypes := #[t, t] })
    (e : TypeId) (i : TypeInfo) (ht : P.underlying t = some (.slice e)) (hi : P.info? e = some i) (hz : i.zero = some (.int .u8 0)) (hsize : i.size = 1) (hby : i.bytes = 1)
    (v : Value) (n : Nat) (xs : List Value) (hs : a.eval sl = v) (hown : w.ownsRow 0 e 1 v n xs)
    (ad : Addr) (m c : Nat) (news : List Value) (hx : a.eval x = .slice (some ad) m c) (hl : news.length = m * 1) (hnews : ∀ j u, news[j]? = some u → w.cell? (ad.add j) = some u) (h1 : ∀ u ∈ news, u.oneCell' = true)
    (h63 : n + m ≤ maxLen) (hbytes : (n + m) * 1 ≤ 140737488355328)
    (h : ∀ v' w', w'.ownsRow 0 e 1 v' (n + m) (xs ++ news) → w.grownBy w' v.ownBlock → RowAt w v v' → wpList P ops Q rest (a.put o.dst v') w') : wpList P ops Q (o :: rest) a w := by
  refine wpList_plain hgd fun K hK => ?_
  obtain ⟨v', w', hr, h2, h3, h4⟩ := append_row_law (P := P) w t o.type e i ht hi hz hsize hby v n xs hown ad m c news hl hnews h1 h63 hbytes
  unfold Oper.wp execOp
  simp only [ho, resolve, invoke, builtin, Sem.run_bind, Sem.run_pure, Result.andThen_ok, List.map_toArray, List.map_cons, List.map_nil, hs, hx, hr]
  exact hK _ _ (h v' w' h2 h3 h4)
end
/-- What a write does: its own address is stored where there was none; perhaps a new block; an append to the row; the row is stored. -/
def Wrote (T e : TypeId) (b : Nat) (p v0 : Value) (bs news : List Value) (w w' : World) : Prop :=
  ∃ w1 w2 w3 v', ((w1 = w ∧ p = .pointer (some ⟨b, 0, none⟩)) ∨ (w1 = w.setCell ⟨b, 0, none⟩ (.pointer (some ⟨b, 0, none⟩)) ∧ p = .pointer none)) ∧ (w2 = w1 ∨ ∃ o, w2 = w1.alloc o) ∧
    w3.ownsRow 0 e 1 v' (bs.length + news.length) (bs ++ news) ∧ w2.grownBy w3 v0.ownBlock ∧ RowAt w2 v0 v' ∧ w' = w3.setCell ⟨b, 1, none⟩ v'
set_option maxHeartbeats 1000000 in
set_option maxRecDepth 100000 in
/-- String, of a builder that holds a byte. -/
theorem bld_string (L : Lays.n169 P ρ) (X : Builder.Extra P ρ) (b : Nat) (p v : Value) (l : List UInt8) (w : World) (hbk : w.heap[b]? = some (.cells #[p, v] (ρ.t 72) (0, 0))) (hown : w.ownsRow 0 (ρ.t 5) 1 v l.length (Lib.byteCells l)) (h0 : l ≠ []) :
    Calls P (ρ.f 169) #[.pointer (some ⟨b, 0, none⟩)] w fun e w' => e = .returned (.string ⟨l.toArray⟩) ∧ ∃ g, v.ownBlock = some g ∧ w' = w.drew.freeze ⟨g, 0, none⟩ l.length := by
  have hl0 : l.length ≠ 0 := by simpa using h0
  obtain ⟨g, cap, cur, rfl, hbg, hg, hnc, hcm, hcs, htake⟩ : ∃ g cap cur, v = .slice (some ⟨g, 0, none⟩) l.length cap ∧ 0 ≤ g ∧ w.heap[g]? = some (.cells cur (ρ.t 5) (0, 0)) ∧ l.length ≤ cap ∧ cap ≤ maxLen ∧ cur.size = cap * 1 ∧ cur.toList.take (l.length * 1) = Lib.byteCells l := by
    rcases hown.2 with ⟨_, hz⟩ | ⟨g, cap, cur, hv, r⟩
    · exact absurd hz hl0
    · exact ⟨g, cap, cur, hv, r⟩
  have c1 : w.drew.cell? ⟨b, 1, none⟩ = some (.slice (some ⟨g, 0, none⟩) l.length cap) := by
    have : w.drew.heap[b]? = some (.cells #[p, .slice (some ⟨g, 0, none⟩) l.length cap] (ρ.t 72) (0, 0)) := hbk
    rw [Lib.cell_of_heap this]; rfl
  have hSD : (Builtin.unsafeSliceData_ #[(ρ.t 37)] (ρ.t 127) #[.slice (some ⟨g, 0, none⟩) l.length cap]).run P w.drew = .ok (.pointer (some ⟨g, 0, none⟩)) w.drew :=
    Lib.run_unsafeSliceData_row _ _ _ _ _ _ (by omega)
  have hUS : (Builtin.unsafeString_ #[(ρ.t 127), (ρ.t 3)] (ρ.t 9) #[.pointer (some ⟨g, 0, none⟩), .int .i64 l.length]).run P w.drew = .ok (.string ⟨l.toArray⟩) (w.drew.freeze ⟨g, 0, none⟩ l.length) := by
    refine Lib.run_unsafeString_row w.drew (ρ.t 127) (ρ.t 3) (ρ.t 9) (ρ.t 5) L.t127 X.cellsByte g cur.size (by have hg' : w.drew.heap[g]? = some (.cells cur (ρ.t 5) (0, 0)) := hg; simp [World.shape?, hg']) l h0 (by omega) (by unfold maxLen at hcm; omega) ?_
    intro j x hx
    have := hown.cells (g := g) rfl j (.int .u8 x.toNat) (by simp [Lib.byteCells, hx])
    exact this
  have mixed := L.mixed
  have t72 := L.t72; have a72 := L.a72; have z72 := L.z72; have v72 := L.v72; have u72 := run_underlying L.t72
  have t70 := L.t70; have a70 := L.a70; have z70 := L.z70; have v70 := L.v70; have u70 := run_underlying L.t70
  have t37 := L.t37; have a37 := L.a37; have z37 := L.z37; have v37 := L.v37; have u37 := run_underlying L.t37
  have t127 := L.t127; have a127 := L.a127; have z127 := L.z127; have v127 := L.v127; have u127 := run_underlying L.t127
  have t3 := L.t3; have a3 := L.a3; have z3 := L.z3; have v3 := L.v3; have u3 := run_underlying L.t3
  have t9 := L.t9; have a9 := L.a9; have z9 := L.z9; have v9 := L.v9; have u9 := run_underlying L.t9
  have t5 := X.t5; have a5 := X.a5; have z5 := X.z5; have v5 := X.v5; have u5 := run_underlying X.t5
  go_enter L.f169, Body.n169_ntmps ρ
  go_wp2
  go_region_o
  all_goals (go_wp2; go_ret; exact ⟨rfl, g, rfl, rfl⟩)
end Go.Proofs


/- A builder of the own frame: what a write does to the state. -/
namespace Go.AI
open Go.Proofs
set_option maxRecDepth 20000
section
variable {E : Env} {K : Kn} {ρ : Nat → Nat → Loc} {w w' : World}
/-- The row behind an append, as an object. -/
theorem app_of_row {sh : Nat → Nat → Option Sh} {w3 : World} {l : Loc} {ty n m : Nat} {xs ys : List (List I)} {olds news : List Value} {v' : Value} (h : OwnAt K ρ sh w l (.arr ty 1 n xs true)) (ho : RepL K olds xs.flatten) (hn : RepL K news ys.flatten)
    (hy : ∀ d ∈ ys, d.length = 1) (hm : ys.length = m) (hrow : w3.ownsRow 0 ty 1 v' (n + m) (olds ++ news)) (hg : w.grownBy w3 (Value.slice l.base n l.cap).ownBlock) (hat : RowAt w (.slice l.base n l.cap) v')
    (hfresh : ∀ b o, w.heap.size ≤ b → K b o = none) :
    ∃ l' : Loc, v' = .slice l'.base (n + m) l'.cap ∧ (∀ (ρ' : Nat → Nat → Loc) (sh' : Nat → Nat → Option Sh), OwnAt K ρ' sh' w3 l' (.arr ty 1 (n + m) (xs ++ ys) true)) ∧ Apnd K w w3 l l' := by
  have hel : ∀ d ∈ xs ++ ys, d.length = 1 := fun d hd => by
    rcases List.mem_append.1 hd with h1 | h1
    · exact h.1 d h1
    · exact hy d h1
  have hlen : (xs ++ ys).length = n + m := by simp [h.2.1, hm]
  have hbase : l.base = none ∨ l.base = some ⟨l.block, 0, none⟩ := by
    rcases h.2.2.2.2 with ⟨_, h1⟩ | ⟨h1, _⟩
    · exact .inl h1
    · exact .inr h1
  have hold : ∀ b, b < w.heap.size → (l.base ≠ none → b ≠ l.block) → w3.heap[b]? = w.heap[b]? := fun b hb hne => hg.block b hb fun e => by
    rcases hbase with h1 | h1
    · rw [h1] at e; simp [Value.ownBlock] at e
    · rw [h1] at e
      simp only [Value.ownBlock, Option.some.injEq] at e
      exact hne (by rw [h1]; simp) e
  rcases hrow.2 with ⟨rfl, h0⟩ | ⟨g, cap, cur, rfl, _, hg3, hnc, hcm, hcs, htake⟩
  · refine ⟨⟨0, 0, none⟩, by rw [h0], fun ρ' sh' => ⟨hel, hlen, by simp only; omega, Nat.zero_le _, .inl ⟨rfl, rfl⟩⟩, ⟨hg.size, hold, ⟨hg.tape, hg.os, hg.output⟩, fun e => absurd rfl e⟩⟩
  · have hKg : ∀ o, K g o = none := by
      rcases hat with h1 | h1
      · rcases hbase with h2 | h2
        · rw [h2] at h1; simp [Value.ownBlock] at h1
        · rw [h2] at h1
          simp only [Value.ownBlock, Option.some.injEq] at h1
          subst h1
          rcases h.2.2.2.2 with ⟨_, h3⟩ | ⟨_, c, _, _, _, h4, _⟩
          · rw [h2] at h3; cases h3
          · exact h4 rfl
      · exact fun o => hfresh g o (h1 g rfl)
    have htk : cur.toList.take ((n + m) * 1) = olds ++ news := htake
    refine ⟨⟨g, cap, some ⟨g, 0, none⟩⟩, rfl, fun ρ' sh' => ⟨hel, hlen, hnc, hcm, .inr ⟨rfl, cur, hg3, hcs, ?_, fun _ o => hKg o, fun o _ => hKg o, fun e => by cases e⟩⟩, ⟨hg.size, hold, ⟨hg.tape, hg.os, hg.output⟩, fun _ => ?_⟩⟩
    · rw [htk, List.flatten_append]
      exact ho.append hn
    · rcases hat with h1 | h1
      · rcases hbase with h2 | h2
        · rw [h2] at h1; simp [Value.ownBlock] at h1
        · rw [h2] at h1
          simp only [Value.ownBlock, Option.some.injEq] at h1
          exact .inr ⟨by rw [h2]; simp, h1⟩
      · exact .inl (h1 g rfl)
/-- What a write of a builder is to do. -/
def WSpec (P : Program) (f : FuncId) (T ty : TypeId) (res x : Value) (news : List Value) : Prop := ∀ (b : Nat) (p v0 : Value) (bs : List Value) (w : World), (p = .pointer none ∨ p = .pointer (some ⟨b, 0, none⟩)) →
  w.heap[b]? = some (.cells #[p, v0] T (0, 0)) → w.ownsRow 0 ty 1 v0 bs.length bs → v0.ownBlock ≠ some b → bs.length + news.length ≤ 140737488355328 →
  Calls P f #[.pointer (some ⟨b, 0, none⟩), x] w fun e w' => e = .returned res ∧ Wrote T ty b p v0 bs news w w'
/-- A call, by what it does to the state. -/
def Wp (c : Cx) (o : Oper) (s : St) (f : FuncId) (args : List D) (s' : St) : Prop := ∀ K ρ a w, Inv c.E K ρ s a w → (∃ vs, (execOp a.eval o).run c.P w = (callFunc f vs.toArray).run c.P w ∧ RepDL K ρ (shape s.S) vs args) →
  ∀ (next : Act → World → Prop) (Qe : Exit → Act → World → Prop), (∀ v w' K' ρ', Inv c.E K' ρ' s' (a.put o.dst v) w' → next (a.put o.dst v) w') → o.wp c.P a w next Qe
theorem does_write {c : Cx} {s : St} {o : Oper} {f : FuncId} {t nm nm2 n m T ty : Nat} {dp dx rd : D} {x res : Value} {news : List Value} {xs ys : List (List I)} {H : Heap} {O : List Heap}
    (hspec : WSpec c.P f T ty res x news) (hent : ∀ args w, (callFunc f args).run c.P w = .ok (.enter f args) w) (hx : ∀ K ρ sh v, RepD K ρ sh v dx → v = x) (hr : ∀ K ρ sh, RepD K ρ sh res rd)
    (hdp : dp = .i (.v (.pointer none)) ∨ dp = .own 0 nm 0 0) (ht : o.dst = some t) (hn : t < s.n) (hS : s.S = H :: O) (hb : look H nm = some (.tb T [dp, .osl 0 nm2])) (ha : look H nm2 = some (.arr ty 1 n xs true))
    (hne : nm ≠ nm2) (hnews : ∀ K, RepL K news ys.flatten) (hy : ∀ d ∈ ys, d.length = 1) (hm : ys.length = m) (hlim : n + m ≤ 140737488355328) :
    Wp c o s f [.own 0 nm 0 0, dx] { σ := (t, rd) :: killσ nm2 s.σ, S := ((nm, .tb T [.own 0 nm 0 0, .osl 0 nm2]) :: (nm2, .arr ty 1 (n + m) (xs ++ ys) true) :: killH nm2 ((nm, .tb T [.own 0 nm 0 0, .osl 0 nm2]) :: H)) :: O, n := s.n } := by
  intro K ρ a w hi ⟨vs, hrun, hrep⟩ next Qe hnext
  have hh := hi.h
  rw [hS] at hh hrep
  have hob : objAt (H :: O) 0 nm = some (.tb T [dp, .osl 0 nm2]) := by simpa [objAt] using hb
  have hoa : objAt (H :: O) 0 nm2 = some (.arr ty 1 n xs true) := by simpa [objAt] using ha
  have e0 : (fun d n => ρ (0 + d) n) = ρ := by funext d n; rw [Nat.zero_add]
  have s0 : ∀ S : List Heap, shape (S.drop 0) = shape S := fun S => by rw [List.drop_zero]
  have hwb := hh.own _ _ _ hob
  rw [e0, s0] at hwb
  obtain ⟨cur, hc, hrc, hKb⟩ := hwb
  have hwa := hh.own _ _ _ hoa
  rw [e0, s0] at hwa
  obtain ⟨olds, hro, hrow⟩ := own_row hwa
  have hol : olds.length = n := by simpa using hrow.1
  have hshb : shape (H :: O) 0 nm = some .box := by simp [shape, hob, Ob.sh]
  have hsha : shape (H :: O) 0 nm2 = some (.arr 1 n) := by simp [shape, hoa, Ob.sh]
  obtain ⟨p, v0, hcur, hp, hv0⟩ : ∃ p v0, cur = #[p, v0] ∧ RepD K ρ (shape (H :: O)) p dp ∧ RepD K ρ (shape (H :: O)) v0 (.osl 0 nm2) := by
    generalize hL : cur.toList = L at hrc
    cases hrc with
    | cons h1 h2 => cases h2 with
      | cons h3 h4 => cases h4; exact ⟨_, _, Array.ext' (by rw [hL]), h1, h3⟩
  subst hcur
  have hv0 := inv_osl hv0 hsha
  subst hv0
  have hpp : p = .pointer none ∨ p = .pointer (some ⟨(ρ 0 nm).block, 0, none⟩) := by
    rcases hdp with rfl | rfl
    · exact .inl (inv_v hp)
    · exact .inr (inv_box hp hshb)
  have hnb : (Value.slice (ρ 0 nm2).base n (ρ 0 nm2).cap).ownBlock ≠ some (ρ 0 nm).block := by
    intro e
    rcases hwa.2.2.2.2 with ⟨_, h1⟩ | ⟨h1, _⟩
    · rw [h1] at e; simp [Value.ownBlock] at e
    · rw [h1] at e
      simp only [Value.ownBlock, Option.some.injEq] at e
      exact hne (hh.inj 0 nm _ 0 nm2 _ hob hoa trivial (by show _ ≠ none; rw [h1]; simp) e.symm).2
  obtain ⟨rfl⟩ : vs = [.pointer (some ⟨(ρ 0 nm).block, 0, none⟩), x] := by
    cases hrep with
    | cons h1 h2 => cases h2 with
      | cons h3 h4 => cases h4; rw [inv_box h1 hshb, hx _ _ _ _ h3]
  rw [hent] at hrun
  simp only [Oper.wp, hrun, Oper.upon]
  have hml : news.length = m := by
    have := (hnews K).length
    rw [this, flat_len ys hy, hm]; omega
  refine (hspec _ p _ olds w hpp hc (by rw [hol]; exact hrow) hnb (by rw [hol, hml]; exact hlim)).mono ?_
  rintro e w' ⟨rfl, w1, w2, w3, v', h1, h2, hrow3, hgb, hat, rfl⟩
  rw [hol, hml] at hrow3
  have e1 : (fun d n => shape (H :: O) (0 + d) n) = shape (H :: O) := by funext d n; rw [Nat.zero_add]
  have hcells : RepDL K (fun d n => ρ (0 + d) n) (fun d n => shape (H :: O) (0 + d) n) [.pointer (some ⟨(ρ 0 nm).block, 0, none⟩), .slice (ρ 0 nm2).base n (ρ 0 nm2).cap] [.own 0 nm 0 0, .osl 0 nm2] := by
    rw [e0, e1]
    exact .cons (.box hshb) (.cons (.osl hsha) .nil)
  have hI1 : HInv c.E K ρ (setAt (H :: O) 0 nm (.tb T [.own 0 nm 0 0, .osl 0 nm2])) w1 ∧ w1.heap[(ρ 0 nm).block]? = some (.cells #[.pointer (some ⟨(ρ 0 nm).block, 0, none⟩), .slice (ρ 0 nm2).base n (ρ 0 nm2).cap] T (0, 0)) := by
    rcases h1 with ⟨rfl, rfl⟩ | ⟨rfl, rfl⟩
    · exact ⟨hh.put hob rfl trivial trivial rfl (fun _ _ => rfl) ⟨rfl, rfl, rfl⟩ (fun o' x' hx' => by rw [hKb] at hx'; cases hx') ⟨_, hc, hcells, hKb⟩, hc⟩
    · exact ⟨hh.put hob rfl trivial trivial (by simp [World.setCell]) (fun b hb => Go.Deep.blk_setCell_other w _ _ b hb) ⟨rfl, rfl, rfl⟩ (fun o' x' hx' => by rw [hKb] at hx'; cases hx') ⟨_, heap_set0 hc, hcells, hKb⟩, heap_set0 hc⟩
  obtain ⟨hI1, hc1⟩ := hI1
  have hI1 : HInv c.E K ρ (((nm, .tb T [.own 0 nm 0 0, .osl 0 nm2]) :: H) :: O) w1 := hI1
  have hlt1 : (ρ 0 nm).block < w1.heap.size := by
    rcases Nat.lt_or_ge (ρ 0 nm).block w1.heap.size with h' | h'
    · exact h'
    · simp [Array.getElem?_eq_none h'] at hc1
  have hI2 : HInv c.E K ρ (((nm, .tb T [.own 0 nm 0 0, .osl 0 nm2]) :: H) :: O) w2 ∧ w2.heap[(ρ 0 nm).block]? = some (.cells #[.pointer (some ⟨(ρ 0 nm).block, 0, none⟩), .slice (ρ 0 nm2).base n (ρ 0 nm2).cap] T (0, 0)) ∧ w1.heap.size ≤ w2.heap.size := by
    rcases h2 with rfl | ⟨o', rfl⟩
    · exact ⟨hI1, hc1, Nat.le_refl _⟩
    · exact ⟨(HInv.grow (S := ((nm, .tb T [.own 0 nm 0 0, .osl 0 nm2]) :: H) :: O) rfl hI1 (fun _ _ _ e => e) (fun _ h => by simp [look] at h) (grow_none hI1 (.inl rfl) o')).1, by rw [heap_alloc_old w1 o' hlt1]; exact hc1, by simp [World.size_alloc]⟩
  obtain ⟨hI2, hc2, hsz2⟩ := hI2
  have hc3 : w3.heap[(ρ 0 nm).block]? = some (.cells #[.pointer (some ⟨(ρ 0 nm).block, 0, none⟩), .slice (ρ 0 nm2).base n (ρ 0 nm2).cap] T (0, 0)) := by
    rw [hgb.block _ (by omega) (fun e => hnb e.symm)]
    exact hc2
  have hlk : look ((nm, Ob.tb T [.own 0 nm 0 0, .osl 0 nm2]) :: H) nm2 = some (.arr ty 1 n xs true) := by
    rw [look_cons, if_neg hne]; exact ha
  have hoa2 : objAt (((nm, Ob.tb T [.own 0 nm 0 0, .osl 0 nm2]) :: H) :: O) 0 nm2 = some (.arr ty 1 n xs true) := by simpa [objAt] using hlk
  have hob2 : objAt (((nm, Ob.tb T [.own 0 nm 0 0, .osl 0 nm2]) :: H) :: O) 0 nm = some (.tb T [.own 0 nm 0 0, .osl 0 nm2]) := by simp [objAt, look_cons]
  have hwa2 := hI2.own _ _ _ hoa2
  rw [e0, s0] at hwa2
  obtain ⟨l', rfl, hown', hap⟩ := app_of_row hwa2 hro (hnews K) hy hm hrow3 hgb hat (fun b o hb => hI2.K_fresh hb)
  have hKo : backed (ρ 0 nm2) (.arr ty 1 n xs true) → ∀ o, K (ρ 0 nm2).block o = none := by
    intro hbk
    obtain ⟨_, _, _, _, h5⟩ := hwa
    rcases h5 with ⟨_, h6⟩ | ⟨_, c, _, _, _, h9, _⟩
    · exact absurd h6 hbk
    · exact h9 rfl
  obtain ⟨hI3, hbut⟩ := hI2.renew (nm := nm2) (dst := nm2) hlk (by rw [look_killH]; simp) hap Iff.rfl (ob' := .arr ty 1 (n + m) (xs ++ ys) true) Iff.rfl hKo hown'
  generalize hS3 : (((nm2, Ob.arr ty 1 (n + m) (xs ++ ys) true) :: killH nm2 ((nm, Ob.tb T [.own 0 nm 0 0, .osl 0 nm2]) :: H)) :: O) = S3 at hI3 hbut
  have hob3 : objAt S3 0 nm = some (Ob.kill nm2 (.tb T [.own 0 nm 0 0, .osl 0 nm2])) := by
    rw [← hS3]
    simp only [objAt, List.getElem?_cons_zero, look_cons, if_neg (Ne.symm hne), look_killH, if_neg hne, if_true, Option.map_some]
  obtain ⟨hb1, hb2⟩ := hbut 0 nm .box (.inr hne) (by simp [shape, hob2, Ob.sh])
  have hsh3 : shape S3 0 nm2 = some (.arr 1 (n + m)) := by
    rw [← hS3]
    simp [shape, objAt, look_cons, Ob.sh]
  have f0 : (fun d n => upd ρ nm2 l' (0 + d) n) = upd ρ nm2 l' := by funext d n; rw [Nat.zero_add]
  have f1 : (fun d n => shape S3 (0 + d) n) = shape S3 := by funext d n; rw [Nat.zero_add]
  have hcells3 : RepDL K (fun d n => upd ρ nm2 l' (0 + d) n) (fun d n => shape S3 (0 + d) n) [.pointer (some ⟨(ρ 0 nm).block, 0, none⟩), .slice l'.base (n + m) l'.cap] [.own 0 nm 0 0, .osl 0 nm2] := by
    rw [f0, f1]
    have g1 := RepD.box (K := K) (ρ := upd ρ nm2 l') (off := 0) hb1
    rw [hb2] at g1
    have g2 := RepD.osl (K := K) (ρ := upd ρ nm2 l') hsh3
    rw [upd_same] at g2
    exact .cons g1 (.cons g2 .nil)
  have hI4 : HInv c.E K (upd ρ nm2 l') (setAt S3 0 nm (.tb T [.own 0 nm 0 0, .osl 0 nm2])) (w3.setCell ⟨(ρ 0 nm).block, 1, none⟩ (.slice l'.base (n + m) l'.cap)) := by
    refine hI3.put hob3 rfl trivial trivial (by simp [World.setCell]) (fun b hb => Go.Deep.blk_setCell_other w3 _ _ b (by rw [hb2] at hb; exact hb)) ⟨rfl, rfl, rfl⟩ (fun o' x' hx' => by rw [hb2, hKb] at hx'; cases hx') ⟨_, by rw [hb2]; exact heap_set1 hc3, hcells3, fun o => by rw [hb2]; exact hKb o⟩
  have hS4 : setAt S3 0 nm (.tb T [.own 0 nm 0 0, .osl 0 nm2]) = ((nm, .tb T [.own 0 nm 0 0, .osl 0 nm2]) :: (nm2, .arr ty 1 (n + m) (xs ++ ys) true) :: killH nm2 ((nm, .tb T [.own 0 nm 0 0, .osl 0 nm2]) :: H)) :: O := by rw [← hS3]; rfl
  have hsh4 : shape (setAt S3 0 nm (.tb T [.own 0 nm 0 0, .osl 0 nm2])) = shape S3 := shape_setAt hob3 rfl
  have hsh2 : shape (((nm, Ob.tb T [.own 0 nm 0 0, .osl 0 nm2]) :: H) :: O) = shape (H :: O) := shape_setAt (S := H :: O) hob rfl
  rw [hS4] at hI4 hsh4
  rw [hsh2] at hbut
  refine hnext _ _ K (upd ρ nm2 l') ?_
  · rw [ht]
    refine ⟨hI4, hi.defers, by simp [Act.put]; exact hi.size, fun t' d' e' => ?_⟩
    rw [tmps_put (by rw [hi.size]; exact hn)]
    simp only [look_cons] at e'
    split at e'
    · rename_i e2
      simp only [Option.some.injEq] at e'
      subst e'
      rw [if_pos e2]
      exact hr _ _ _
    · rename_i e2
      rw [if_neg e2]
      rw [look_killσ] at e'
      cases hls : look s.σ t' with
      | none => simp [hls] at e'
      | some d0 =>
        simp only [hls, Option.map_some, Option.some.injEq] at e'
        subst e'
        have hr := hi.slots _ _ hls
        rw [hS] at hr
        show RepD _ _ (shape _) _ _
        rw [hsh4]
        exact hr.kill hbut
end
section
variable {c : Cx} {s : St} {k : List Item} {ops : Array Oper} {rest : List Nat} {o : Oper}
/-- At a pause before a call: what it does. -/
theorem g_callP (hT : TOk c.P c.T) (hfn : c.P.funcs[c.f]? = some c.fn) {i t : Nat} {f : FuncId} {args : List D} {s' : St} (ho : ops[i]? = some o) (hg : o.guard = none) (hd : o.dst = some t) (hex : exec c.T s o = .call f args) (hw : Wp c o s f args s')
    (h : GM c (run c.T c.stop 1000 (.inRegion ops rest :: k) s')) : GM c (.pause ops i rest o s k) := by
  have hk : RG c ops rest s' (Rch c k) := run_sound hT hfn 1000 (.inRegion ops rest :: k) _ h.h
  refine ⟨?_⟩
  intro K ρ a w hi
  simp only [wpOps, ho, wanted_of hi (show wantedD ops s o = some true by unfold wantedD; rw [hg]), if_true]
  refine .inl (hw K ρ a w hi ?_ _ _ fun v w' K' ρ' hi' => hk K' ρ' _ w' hi')
  have := exec_snd hT hi.h (.inl hd) fun x _ => hi.ev x
  rw [hex] at this
  exact this
end
section
/-- Bytes, as the elements of a row. -/
def u8l (l : List UInt8) : List (List I) := l.map fun b => [.v (.int .u8 b.toNat)]
theorem u8l_flat : ∀ l : List UInt8, (u8l l).flatten = l.map fun b => I.v (.int .u8 b.toNat)
  | [] => rfl
  | b :: r => by
    have := u8l_flat r
    unfold u8l at this ⊢
    rw [List.map_cons, List.flatten_cons, this]
    rfl
theorem u8l_el (l : List UInt8) : ∀ d ∈ u8l l, d.length = 1 := fun d hd => by
  unfold u8l at hd
  obtain ⟨b, _, rfl⟩ := List.mem_map.1 hd
  rfl
theorem u8l_rep (K : Kn) : ∀ l : List UInt8, RepL K (l.map fun b => Value.int .u8 b.toNat) (u8l l).flatten
  | [] => .nil
  | b :: r => by
    have := u8l_rep K r
    rw [u8l_flat] at this ⊢
    exact .cons (.v rfl) this
theorem repL_vals {K : Kn} : ∀ {vs : List Value} {l : List Value}, RepL K vs (l.map I.v) → vs = l
  | _, [], h => by cases h; rfl
  | _, x :: r, h => by
    cases h with
    | cons h1 h2 =>
      rw [repL_vals h2]
      cases h1
      rfl
theorem u8l_app (a b : List UInt8) : u8l a ++ u8l b = u8l (a ++ b) := by simp [u8l]
/-- What String of a builder is to do. -/
def SSpec (P : Program) (f : FuncId) (T ty : TypeId) : Prop := ∀ (b : Nat) (p v : Value) (l : List UInt8) (w : World), w.heap[b]? = some (.cells #[p, v] T (0, 0)) → w.ownsRow 0 ty 1 v l.length (Lib.byteCells l) → l ≠ [] →
  Calls P f #[.pointer (some ⟨b, 0, none⟩)] w fun e w' => e = .returned (.string ⟨l.toArray⟩) ∧ ∃ g, v.ownBlock = some g ∧ w' = w.drew.freeze ⟨g, 0, none⟩ l.length
theorem freeze_other (w : World) (g n k : Nat) (h : k ≠ g) : (w.freeze ⟨g, 0, none⟩ n).heap[k]? = w.heap[k]? := by
  unfold World.freeze
  split <;> simp [Array.getElem?_modify, Array.getElem?_setIfInBounds, Ne.symm h]
theorem freeze_rest (w : World) (g n : Nat) : (w.freeze ⟨g, 0, none⟩ n).tape = w.tape ∧ (w.freeze ⟨g, 0, none⟩ n).os = w.os ∧ (w.freeze ⟨g, 0, none⟩ n).output = w.output ∧ (w.freeze ⟨g, 0, none⟩ n).heap.size = w.heap.size := by
  unfold World.freeze
  split <;> simp
theorem does_bstr {c : Cx} {s : St} {o : Oper} {f : FuncId} {t nm nm2 T ty : Nat} {dp : D} {l : List UInt8} {H : Heap} {O : List Heap}
    (hspec : SSpec c.P f T ty) (hent : ∀ args w, (callFunc f args).run c.P w = .ok (.enter f args) w) (h0 : l ≠ [])
    (ht : o.dst = some t) (hn : t < s.n) (hS : s.S = H :: O) (hb : look H nm = some (.tb T [dp, .osl 0 nm2])) (ha : look H nm2 = some (.arr ty 1 l.length (u8l l) true)) :
    Wp c o s f [.own 0 nm 0 0] { σ := (t, .i (.v (.string ⟨l.toArray⟩))) :: killσ nm2 s.σ, S := ((nm2, .arr ty 1 0 [] true) :: killH nm2 H) :: O, n := s.n } := by
  intro K ρ a w hi ⟨vs, hrun, hrep⟩ next Qe hnext
  have hh := hi.h
  rw [hS] at hh hrep
  have hob : objAt (H :: O) 0 nm = some (.tb T [dp, .osl 0 nm2]) := by simpa [objAt] using hb
  have hoa : objAt (H :: O) 0 nm2 = some (.arr ty 1 l.length (u8l l) true) := by simpa [objAt] using ha
  have e0 : (fun d n => ρ (0 + d) n) = ρ := by funext d n; rw [Nat.zero_add]
  have s0 : ∀ S : List Heap, shape (S.drop 0) = shape S := fun S => by rw [List.drop_zero]
  have hwb := hh.own _ _ _ hob
  rw [e0, s0] at hwb
  obtain ⟨cur, hc, hrc, hKb⟩ := hwb
  have hwa := hh.own _ _ _ hoa
  rw [e0, s0] at hwa
  obtain ⟨olds, hro, hrow⟩ := own_row hwa
  have hold : olds = Lib.byteCells l := by
    rw [u8l_flat] at hro
    have : (l.map fun b => I.v (.int .u8 b.toNat)) = (l.map fun b => Value.int .u8 b.toNat).map I.v := by rw [List.map_map]; rfl
    rw [this] at hro
    exact repL_vals hro
  subst hold
  have hshb : shape (H :: O) 0 nm = some .box := by simp [shape, hob, Ob.sh]
  have hsha : shape (H :: O) 0 nm2 = some (.arr 1 l.length) := by simp [shape, hoa, Ob.sh]
  obtain ⟨p, v0, hcur, hv0⟩ : ∃ p v0, cur = #[p, v0] ∧ RepD K ρ (shape (H :: O)) v0 (.osl 0 nm2) := by
    generalize hL : cur.toList = L at hrc
    cases hrc with
    | cons h1 h2 => cases h2 with
      | cons h3 h4 => cases h4; exact ⟨_, _, Array.ext' (by rw [hL]), h3⟩
  subst hcur
  have hv0 := inv_osl hv0 hsha
  subst hv0
  obtain ⟨rfl⟩ : vs = [.pointer (some ⟨(ρ 0 nm).block, 0, none⟩)] := by
    cases hrep with
    | cons h1 h2 => cases h2; rw [inv_box h1 hshb]
  rw [hent] at hrun
  simp only [Oper.wp, hrun, Oper.upon]
  refine (hspec _ p _ l w hc hrow h0).mono ?_
  rintro e w' ⟨rfl, g, hgb, rfl⟩
  obtain ⟨r1, r2, r3, r4⟩ := freeze_rest w.drew g l.length
  have hbase : (ρ 0 nm2).base = some ⟨(ρ 0 nm2).block, 0, none⟩ := by
    rcases hwa.2.2.2.2 with ⟨_, h1⟩ | ⟨h1, _⟩
    · rw [h1] at hgb; simp [Value.ownBlock] at hgb
    · exact h1
  have hgb : (ρ 0 nm2).block = g := by rw [hbase] at hgb; simpa [Value.ownBlock] using hgb
  subst hgb
  have hKo : backed (ρ 0 nm2) (.arr ty 1 l.length (u8l l) true) → ∀ o, K (ρ 0 nm2).block o = none := by
    intro hbk
    obtain ⟨_, _, _, _, h5⟩ := hwa
    rcases h5 with ⟨_, h6⟩ | ⟨_, c, _, _, _, h9, _⟩
    · exact absurd h6 hbk
    · exact h9 rfl
  let l0 : Loc := ⟨0, 0, none⟩
  have hap : Apnd K w (w.drew.freeze ⟨(ρ 0 nm2).block, 0, none⟩ l.length) (ρ 0 nm2) l0 := by
    refine ⟨Nat.le_of_eq r4.symm, fun b _ hne => ?_, ⟨r1, r2, r3⟩, fun e => absurd rfl e⟩
    exact freeze_other w.drew _ _ _ (hne (by rw [hbase]; simp))
  obtain ⟨hI3, hbut⟩ := hh.renew (nm := nm2) (dst := nm2) ha (by rw [look_killH]; simp) hap Iff.rfl (ob' := .arr ty 1 0 [] true) Iff.rfl hKo (fun ρ' sh' => ⟨by simp, rfl, Nat.le_refl _, by simp [l0], .inl ⟨rfl, rfl⟩⟩)
  refine hnext _ _ K (upd ρ nm2 l0) ?_
  · rw [ht]
    refine ⟨hI3, hi.defers, by simp [Act.put]; exact hi.size, fun t' d' e' => ?_⟩
    rw [tmps_put (by rw [hi.size]; exact hn)]
    simp only [look_cons] at e'
    split at e'
    · rename_i e2
      simp only [Option.some.injEq] at e'
      subst e'
      rw [if_pos e2]
      exact .i (.v rfl)
    · rename_i e2
      rw [if_neg e2]
      rw [look_killσ] at e'
      cases hls : look s.σ t' with
      | none => simp [hls] at e'
      | some d0 =>
        simp only [hls, Option.map_some, Option.some.injEq] at e'
        subst e'
        have hr := hi.slots _ _ hls
        rw [hS] at hr
        exact hr.kill hbut
end
end Go.AI


/- slices.Delete of a list of boxes: one element goes, in place. -/
namespace Go.AI
open Go.Proofs
open Go.Shelf Go.RowKit Go.Lib Go.Sort
end Go.AI


/- A region whose order is drawn, with a late operation: behind a prefix an old operation, one that may come ahead of it, and a last one. -/
namespace Go.AI
section
variable {c : Cx} {s : St} {k : List Item} {ops : Array Oper} {rest : List Nat} {o : Oper}
end
end Go.AI


/- Searches in lists of one's own, clones, the closure of boxes. -/
namespace Go.AI
open Go.Proofs
set_option maxRecDepth 20000
end Go.AI


/- The program's cover. -/
namespace Go.AI
open Go.Proofs
set_option maxRecDepth 20000
end Go.AI


/- covered, Boxes, equal lists of boxes. -/
namespace Go.AI
open Go.Proofs
set_option maxRecDepth 20000
/-- What a domain's values are. -/
structure valsB (l : List Vr) (dom : List (List Int)) : Prop where
  vb : ∀ a ∈ l, -65536 ≤ a.low ∧ a.high ≤ 65536
  ll : l.length ≤ 16
  len : dom.length ≤ 4096
  vl : ∀ v ∈ dom, v.length = l.length
  b : ∀ v ∈ dom, ∀ j, -65536 ≤ v.getD j 0 ∧ v.getD j 0 ≤ 65536
theorem domOk.vals {l : List Vr} (h : domOk l) : valsB l (allV l) := ⟨fun a ha => (h.b a ha).1, h.len, h.all, fun v hv => allV_mem_len hv, fun v hv => dom_bounds h hv⟩
instance bxDec : DecidableEq Bx := fun a b => decidable_of_iff (a.low = b.low ∧ a.high = b.high) ⟨fun ⟨h1, h2⟩ => by cases a; cases b; cases h1; cases h2; rfl, fun h => by subst h; exact ⟨rfl, rfl⟩⟩
end Go.AI


/- Variables of small ranges. -/
namespace Go.AI
set_option maxRecDepth 20000
/-- The variables that the laws draw. -/
structure small (l : List Vr) : Prop where
  dom : domOk l
  all : allG l = (allV l, 0)
  len : l.length ≤ 3
  pos : 1 ≤ (allV l).length
  most : (allV l).length ≤ 64
  v : ∀ x ∈ l, vrOk x
theorem small.max {l : List Vr} (h : small l) : l.length ≤ max63 ∧ ∀ v ∈ l, v.name.size ≤ max63 :=
  ⟨by have := h.len; simp only [max63]; omega, fun v hv => by rw [(h.v v hv).nm]; decide⟩
end Go.AI


/- The arguments of the statements about guards: data. -/
namespace Go.Proofs.YtonnakcgopcfnaaDoor
open Go.ChangeShapes Go.WideShapes Go.ChangeAt Go.RowKit Go.Deep Go.WideElems
set_option maxRecDepth 100000
section
variable {H : Type} {enc : TypeId × Value → H} {W : World}
theorem okWide_sl {P : Program} {W : World} {r : Reach} {b0 : Nat} {t e : TypeId} {v : Value} (ht : P.underlying t = some (.slice e)) (h : Value.okWide P W r b0 t v) : v.cells.toList = [v] := by
  simp only [Value.okWide, ht, Cell.okWide] at h
  cases v <;> simp_all [Cell.ok, Value.cells]
theorem open_byts {r : Reach} {b0 : Nat} {v : Value} {d : DataW H} {p : List MemPlace} (hv : Value.okWide Tryd.prog W r b0 38 v) (h : DataW.Trod enc Tryd.prog W 0 (fun _ => true) true 38 v d p) :
    ∃ l : List Int, (AI.byteOk l ∧ l.length ≤ AI.max63) ∧ ∀ ρ sh, AI.RepD (KW W) ρ sh v (AI.byts l) := by
  obtain ⟨n, hn⟩ := h
  obtain ⟨is, hr, l, rfl, h1, h2⟩ := opn_byts n _ _ hn
  rw [okWide_sl Tryd.underlying38 hv] at hr
  cases hr with
  | cons a b => exact ⟨l, ⟨h1, h2⟩, fun ρ sh => .i a⟩
end
end Go.Proofs.YtonnakcgopcfnaaDoor


/- The arguments of the statements about flattening: data. -/
namespace Go.Proofs.YtonnakcgopcfnaaDoor
open Go.ChangeShapes Go.WideShapes Go.ChangeAt Go.RowKit Go.Deep Go.WideElems
set_option maxRecDepth 100000
section
variable {H : Type} {enc : TypeId × Value → H} {W : World}
end
end Go.Proofs.YtonnakcgopcfnaaDoor


/- Boxes checked; the literals of a box. -/
namespace Go.AI
open Go.Proofs
set_option maxRecDepth 20000
end Go.AI


/- Expressions of literals, joins. -/
namespace Go.AI
open Go.Proofs
set_option maxRecDepth 20000
end Go.AI


/- The guard of boxes. -/
namespace Go.AI
open Go.Proofs
set_option maxRecDepth 20000
end Go.AI


/- Literals, Implies, Equivalent, Simplify. -/
namespace Go.AI
open Go.Proofs
set_option maxRecDepth 20000
end Go.AI


/- A builder begins: a typed variable, its nil row as a row of no bytes. -/
namespace Go.AI
open Go.Proofs
section
variable {P : Program} {T : TT} {E : Env} {K : Kn} {ρ : Nat → Nat → Loc} {S : List Heap} {w : World} {dst : Nat}
theorem new_tb (hw : HInv E K ρ S w) (hf : objAt S 0 dst = none) {cs : List Value} {ds : List D} (hr : RepDL K ρ (shape S) cs ds) (ty : TypeId) :
    ∃ l, Grow K ρ S w [(dst, .tb ty ds)] K (upd ρ dst l) (w.alloc (.cells cs.toArray ty)) ∧ RepD K (upd ρ dst l) (shape (addS S [(dst, .tb ty ds)])) (.pointer (some ⟨w.heap.size, 0, none⟩)) (.own 0 dst 0 0) := by
  have hst := stays_add (K := K) (ρ := ρ) hf (.tb ty ds) ⟨w.heap.size, 0, none⟩
  refine ⟨⟨w.heap.size, 0, none⟩, grow_alloc hw hf (.inl rfl) (fun _ => rfl) ⟨cs.toArray, heap_alloc_new w _, by simpa using hr.stays hst, fun o => hw.K_fresh (Nat.le_refl _)⟩, ?_⟩
  have hsh : shape (addS S [(dst, .tb ty ds)]) 0 dst = some .box := by
    cases S with
    | nil => simp [shape, addS, objAt, look_cons, Ob.sh]
    | cons H O => simp [shape, objAt_addS, look_cons, Ob.sh]
  have := RepD.box (K := K) (ρ := upd ρ dst ⟨w.heap.size, 0, none⟩) (off := 0) hsh
  rwa [upd_same] at this
end
section
variable {c : Cx} {s : St} {k : List Item} {ops : Array Oper} {rest : List Nat} {o : Oper}
/-- At a pause: a variable that keeps its type. -/
theorem g_tb (hT : TOk c.P c.T) (hfn : c.P.funcs[c.f]? = some c.fn) {i t nm : Nat} {ti : TI} {H : Heap} {O : List Heap} (ho : ops[i]? = some o) (hop : o.op = .alloc t) (hd : o.dst = some nm) (hg : o.guard = none) (hn : Nat.ble (nm + 1) s.n = true) (hi : look c.T t = some ti)
    (hS : s.S = H :: O) (hf : look H nm = none) (h : GM c (run c.T c.stop 1000 (.inRegion ops rest :: k) { σ := (nm, .own 0 nm 0 0) :: s.σ, S := ((nm, .tb t (ti.zero.map fun v => .i (.v v))) :: H) :: O, n := s.n })) :
    GM c (.pause ops i rest o s k) := by
  refine ⟨?_⟩
  have hk : RG c ops rest { σ := (nm, .own 0 nm 0 0) :: s.σ, S := ((nm, .tb t (ti.zero.map fun v => .i (.v v))) :: H) :: O, n := s.n } (Rch c k) := run_sound hT hfn 1000 (.inRegion ops rest :: k) _ h.h
  refine rg_op ho (by unfold wantedD; rw [hg]) ?_
  intro K ρ a w hinv next Qe hnext
  have hok := hT _ _ hi
  have hh := hinv.h
  rw [hS] at hh
  obtain ⟨inf, h1, h2, h3, z, h4, h5, -⟩ := hok.info
  have hf' : objAt (H :: O) 0 nm = none := by simpa [objAt] using hf
  obtain ⟨l, g, r⟩ := new_tb (dst := nm) hh hf' (ones_of hok.one) t
  have hz : z.cells = ti.zero.toArray := by rw [← h5]
  have hrun : (execOp a.eval o).run c.P w = .ok (.value (.pointer (some ⟨w.heap.size, 0, none⟩))) (w.alloc (.cells ti.zero.toArray t)) := by
    simp [execOp, hop, Instr.alloc, zeroValue, typeInfo, h1, h4, newVar, newRow, hz]
  simp only [Oper.wp, hrun, Oper.upon]
  obtain ⟨hI, hst⟩ := HInv.grow (S := H :: O) rfl hh (fun _ _ _ e => e) (fun n' h => by
    cases hl : look [(nm, Ob.tb t (ti.zero.map fun v => .i (.v v)))] n' with
    | none => exact absurd hl h
    | some ob => obtain ⟨rfl, rfl⟩ := look_one hl; exact hf) g
  refine hnext _ _ _ _ _ hst.le (fun d n x _ e => ⟨hst.shp _ _ _ (by rw [hS] at e; exact e), hst.loc _ _ _ (by rw [hS] at e; exact e)⟩) ?_ hk
  rw [hd]
  refine inv_set hinv (Nat.le_of_ble_eq_true hn) hI ?_ r
  rw [hS]; exact hst
theorem wk_niltb (b nm e z : Nat) {T : Nat} {x : D} {H : Heap} {O : List Heap} (hS : s.S = H :: O) (hb : look H b = some (.tb T [x, .i (.v (.slice none 0 0))])) (hf : look H nm = none) : Wk c s { σ := s.σ, S := ((b, .tb T [x, .osl 0 nm]) :: (nm, .arr e z 0 [] true) :: H) :: O, n := s.n } := by
  intro K ρ a w hi
  have hh := hi.h
  rw [hS] at hh
  let l0 : Loc := ⟨0, 0, none⟩
  have hown : ∀ ρ' sh', OwnAt K ρ' sh' w l0 (.arr e z 0 [] true) := fun ρ' sh' => ⟨by simp, rfl, Nat.le_refl _, by simp [l0], .inl ⟨rfl, rfl⟩⟩
  have hg : Grow K ρ (H :: O) w [(nm, .arr e z 0 [] true)] K (upd ρ nm l0) w := by
    refine ⟨K.le_refl, fun _ _ _ h => .inl h, Nat.le_refl _, fun _ _ => rfl, ⟨rfl, rfl, rfl⟩, fun d n' h => ?_, hh.holds, fun n' ob e' => ?_, fun n1 o1 n2 o2 e1 e2 b1 b2 _ => ?_⟩
    · refine upd_other _ _ _ (h.imp id fun h e' => ?_)
      subst e'
      simp [look_cons] at h
    · obtain ⟨rfl, rfl⟩ := look_one e'
      rw [upd_same]
      exact ⟨hown _ _, fun hb => absurd rfl hb⟩
    · obtain ⟨rfl, rfl⟩ := look_one e1
      obtain ⟨rfl, rfl⟩ := look_one e2
      rfl
  obtain ⟨hI, hst⟩ := HInv.grow (S := H :: O) rfl hh (fun _ _ _ e => e) (fun n' h => by
    cases hl : look [(nm, Ob.arr e z 0 [] true)] n' with
    | none => exact absurd hl h
    | some ob => obtain ⟨rfl, rfl⟩ := look_one hl; exact hf) hg
  have hbn : nm ≠ b := fun e' => by subst e'; rw [hf] at hb; cases hb
  have hI : HInv c.E K (upd ρ nm l0) (((nm, .arr e z 0 [] true) :: H) :: O) w := hI
  have hob : objAt (((nm, .arr e z 0 [] true) :: H) :: O) 0 b = some (.tb T [x, .i (.v (.slice none 0 0))]) := by
    simp only [objAt, List.getElem?_cons_zero, look_cons, if_neg hbn]; exact hb
  have hwb := hI.own _ _ _ hob
  have e0 : (fun d n => upd ρ nm l0 (0 + d) n) = upd ρ nm l0 := by funext d n; rw [Nat.zero_add]
  have e1 : (fun d n => shape (((nm, Ob.arr e z 0 [] true) :: H) :: O) (0 + d) n) = shape (((nm, Ob.arr e z 0 [] true) :: H) :: O) := by funext d n; rw [Nat.zero_add]
  obtain ⟨cur, hc, hrc, hKb⟩ := hwb
  rw [e0, List.drop_zero] at hrc
  have hnew : RepDL K (fun d n => upd ρ nm l0 (0 + d) n) (fun d n => shape (((nm, Ob.arr e z 0 [] true) :: H) :: O) (0 + d) n) cur.toList [x, .osl 0 nm] := by
    rw [e0, e1]
    generalize cur.toList = L at hrc
    cases hrc with
    | cons h1 h2 => cases h2 with
      | cons h3 h4 =>
        cases h4
        rw [inv_v h3]
        have := RepD.osl (K := K) (ρ := upd ρ nm l0) (sh := shape (((nm, Ob.arr e z 0 [] true) :: H) :: O)) (dep := 0) (nm := nm) (es := z) (len := 0) (by simp [shape, objAt, look_cons, Ob.sh])
        rw [upd_same] at this
        exact .cons h1 (.cons this .nil)
  have hI2 := hI.put (ob' := .tb T [x, .osl 0 nm]) hob rfl trivial trivial (w' := w) rfl (fun _ _ => rfl) ⟨rfl, rfl, rfl⟩ (fun o' x' hx' => by rw [hKb] at hx'; cases hx') ⟨cur, hc, hnew, hKb⟩
  have hsh : shape (setAt (((nm, Ob.arr e z 0 [] true) :: H) :: O) 0 b (.tb T [x, .osl 0 nm])) = shape (((nm, Ob.arr e z 0 [] true) :: H) :: O) := shape_setAt hob rfl
  refine ⟨K, upd ρ nm l0, hI2, hi.defers, hi.size, fun t' d e' => ?_⟩
  have := hi.slots _ _ e'
  rw [hS] at this
  show RepD K _ (shape (((b, .tb T [x, .osl 0 nm]) :: (nm, .arr e z 0 [] true) :: H) :: O)) _ _
  have hsh : shape (((b, .tb T [x, .osl 0 nm]) :: (nm, .arr e z 0 [] true) :: H) :: O) = shape (((nm, Ob.arr e z 0 [] true) :: H) :: O) := hsh
  rw [hsh]
  exact this.stays hst
end
end Go.AI


/- strings.Builder of this program: copyCheck, WriteString, WriteByte, String, told whole. -/
namespace Go.Proofs
open Go.Shelf Go.RowKit
theorem sizeB : (Tryd.prog.info? 168).map (·.size) = some 2 := by kernel_rfl
theorem liesB : liesAt Tryd.prog Tryd.prog.depth 168 (2 / Tryd.prog.cellsOf 168) 0 168 1 = true := by kernel_rfl
set_option maxHeartbeats 1000000 in
set_option maxRecDepth 100000 in
theorem chk_used (b : Nat) (w : World) (h0 : w.cell? ⟨b, 0, none⟩ = some (.pointer (some ⟨b, 0, none⟩))) :
    Calls Tryd.prog 148 #[.pointer (some ⟨b, 0, none⟩)] w fun e w' => e = .returned (.tuple #[]) ∧ w' = w := by
  obtain ⟨j, hj, _⟩ := Option.map_eq_some_iff.1 sizeB
  have u72 := run_underlying Tryd.underlying168
  have u70 := run_underlying Tryd.underlying166
  have u4 := run_underlying Tryd.underlying4
  have u164 := run_underlying Tryd.underlying253
  go_enter Tryd.func148, Tryd.ntmps148
  go_wp2
  rw [Lib.run_neq_ptr_same w _ Tryd.underlying166 hj]
  go_wp2
  go_end0
  exact ⟨rfl, rfl⟩
set_option maxHeartbeats 1000000 in
set_option maxRecDepth 100000 in
theorem chk_fresh (b : Nat) (w : World) (h0 : w.cell? ⟨b, 0, none⟩ = some (.pointer none)) (hsh : w.shape? b = some (168, 2)) (hfz : w.frozen? ⟨b, 0, none⟩ = false) :
    Calls Tryd.prog 148 #[.pointer (some ⟨b, 0, none⟩)] w fun e w' => e = .returned (.tuple #[]) ∧ w' = w.setCell ⟨b, 0, none⟩ (.pointer (some ⟨b, 0, none⟩)) := by
  obtain ⟨j, hj, hjs⟩ := Option.map_eq_some_iff.1 sizeB
  have u72 := run_underlying Tryd.underlying168
  have u70 := run_underlying Tryd.underlying166
  have u4 := run_underlying Tryd.underlying4
  have u164 := run_underlying Tryd.underlying253
  go_enter Tryd.func148, Tryd.ntmps148
  go_wp2
  rw [Lib.run_to_unsafe w ⟨b, 0, none⟩ Tryd.underlying166 Tryd.underlying253 hj (by rw [hjs]; decide) hsh (Nat.zero_lt_succ 1)]
  simp only [Result.andThen]
  rw [Oper.upon_value]
  go_wp2
  rw [run_callFunc_extern Tryd.func174 (by kernel_rfl) (by kernel_rfl) (by kernel_rfl) (e := Extern.AbiNoEscape.same) (by kernel_rfl)]
  rw [Lib.run_noEscape]
  simp only [Result.andThen]
  rw [Oper.upon_value]
  go_wp2
  rw [Lib.run_from_unsafe w ⟨b, 0, none⟩ Tryd.underlying253 Tryd.underlying166 hj hsh liesB]
  simp only [Result.andThen]
  rw [Oper.upon_value]
  go_wp2
  go_end0
  exact ⟨rfl, rfl⟩
/-- copyCheck. -/
theorem bld_check148 (b : Nat) (p v : Value) (bs : List Value) (w : World) (hp : p = .pointer none ∨ p = .pointer (some ⟨b, 0, none⟩)) (hbk : w.heap[b]? = some (.cells #[p, v] 168 (0, 0)))
    (hrow : w.ownsRow 0 5 1 v bs.length bs) (hne : v.ownBlock ≠ some b) :
    Calls Tryd.prog 148 #[.pointer (some ⟨b, 0, none⟩)] w fun e w' => e = .returned (.tuple #[]) ∧ (w'.heap[b]? = some (.cells #[.pointer (some ⟨b, 0, none⟩), v] 168 (0, 0)) ∧ w'.ownsRow 0 5 1 v bs.length bs) ∧
      ((w' = w ∧ p = .pointer (some ⟨b, 0, none⟩)) ∨ (w' = w.setCell ⟨b, 0, none⟩ (.pointer (some ⟨b, 0, none⟩)) ∧ p = .pointer none)) := by
  have hc : w.cell? ⟨b, 0, none⟩ = some p := by rw [Lib.cell_of_heap hbk]; rfl
  rcases hp with rfl | rfl
  · have hsh : w.shape? b = some (168, 2) := by simp [World.shape?, hbk]
    refine (chk_fresh b w hc hsh (Lib.frozen_of_heap hbk 0)).mono ?_
    rintro e w' ⟨rfl, rfl⟩
    exact ⟨rfl, ⟨heap_set0 hbk, ownsRow_at hrow fun k hk => Go.Deep.blk_setCell_other w _ _ k fun e => hne (by rw [hk, e])⟩, .inr ⟨rfl, rfl⟩⟩
  · refine (chk_used b w hc).mono ?_
    rintro e w' ⟨rfl, rfl⟩
    exact ⟨rfl, ⟨hbk, hrow⟩, .inl ⟨rfl, rfl⟩⟩
set_option maxHeartbeats 2000000 in
set_option maxRecDepth 100000 in
/-- WriteString. -/
theorem bld_str90 (b : Nat) (p v0 : Value) (bs : List Value) (s : ByteArray) (w : World) (hp : p = .pointer none ∨ p = .pointer (some ⟨b, 0, none⟩)) (hbk0 : w.heap[b]? = some (.cells #[p, v0] 168 (0, 0)))
    (hrow : w.ownsRow 0 5 1 v0 bs.length bs) (hne : v0.ownBlock ≠ some b) (hlen : bs.length + s.size ≤ 140737488355328) :
    Calls Tryd.prog 90 #[.pointer (some ⟨b, 0, none⟩), .string s] w fun e w' => e = .returned (.tuple #[.int .i64 s.size, .nilIface]) ∧ Wrote 168 5 b p v0 bs (Lib.strCells s) w w' := by
  obtain ⟨i0, hi, hz0, hz1, hz2⟩ := info_parts Tryd.Builder_Extra_169.infoByte
  have u72 := run_underlying Tryd.underlying168
  have u70 := run_underlying Tryd.underlying166
  have u37 := run_underlying Tryd.underlying38
  have u9 := run_underlying Tryd.underlying9
  have u4 := run_underlying Tryd.underlying4
  have u5 := run_underlying Tryd.underlying5
  have u3 := run_underlying Tryd.underlying3
  have e240 : ∀ args w, (callFunc 148 args).run Tryd.prog w = .ok (.enter 148 args) w := Tryd.call148
  go_enter Tryd.func90, Tryd.ntmps90
  go_wp2_with (go_at_fn 148; refine (bld_check148 b p v0 bs _ hp hbk0 hrow hne).mono ?_)
  rintro e w1 ⟨rfl, ⟨hbk, hown⟩, hb1⟩
  have c0 : w1.cell? ⟨b, 0, none⟩ = some (.pointer (some ⟨b, 0, none⟩)) := by rw [Lib.cell_of_heap hbk]; rfl
  have c1 : w1.cell? ⟨b, 1, none⟩ = some v0 := by rw [Lib.cell_of_heap hbk]; rfl
  have hlt : b < w1.heap.size := by
    rcases Nat.lt_or_ge b w1.heap.size with h' | h'
    · exact h'
    · simp [Array.getElem?_eq_none h'] at hbk
  go_wp2_with (at_builtin; refine wpList_app_str _ rfl _ _ 38 9 rfl 5 i0 Tryd.underlying38 Tryd.underlying9 hi hz0 hz1 hz2 _ _ _ rfl hown s rfl ?c3 ?c4 ?_)
  case c3 => unfold maxLen; omega
  case c4 => omega
  intro v' w2 hown' hgrow hat
  have hb2 : w2.heap[b]? = some (.cells #[.pointer (some ⟨b, 0, none⟩), v0] 168 (0, 0)) := by
    rw [hgrow.block b hlt (fun e => hne e.symm)]
    exact hbk
  have d0 : w2.cell? ⟨b, 0, none⟩ = some (.pointer (some ⟨b, 0, none⟩)) := by rw [Lib.cell_of_heap hb2]; rfl
  have d1 : w2.cell? ⟨b, 1, none⟩ = some v0 := by rw [Lib.cell_of_heap hb2]; rfl
  have f1 : w2.frozen? ⟨b, 1, none⟩ = false := Lib.frozen_of_heap hb2 1
  have hfin : Wrote 168 5 b p v0 bs (Lib.strCells s) w (w2.setCell ⟨b, 1, none⟩ v') := ⟨w1, w1, w2, v', hb1, .inl rfl, by simpa [Lib.strCells_length] using hown', hgrow, hat, rfl⟩
  obtain ⟨ao, n', cap, rfl⟩ : ∃ ao n' cap, v' = .slice ao n' cap := by
    rcases hown'.2 with ⟨hv, _⟩ | ⟨g, cap, cur, hv, _⟩
    · exact ⟨_, _, _, hv⟩
    · exact ⟨_, _, _, hv⟩
  go_wp2
  go_ret2
  exact ⟨rfl, hfin⟩
set_option maxHeartbeats 2000000 in
set_option maxRecDepth 100000 in
/-- WriteByte. -/
theorem bld_byte155 (b : Nat) (p v0 : Value) (bs : List Value) (c : Int) (w : World) (hp : p = .pointer none ∨ p = .pointer (some ⟨b, 0, none⟩)) (hbk0 : w.heap[b]? = some (.cells #[p, v0] 168 (0, 0)))
    (hrow : w.ownsRow 0 5 1 v0 bs.length bs) (hne : v0.ownBlock ≠ some b) (hlen : bs.length + 1 ≤ 140737488355328) :
    Calls Tryd.prog 155 #[.pointer (some ⟨b, 0, none⟩), .int .u8 c] w fun e w' => e = .returned .nilIface ∧ Wrote 168 5 b p v0 bs [.int .u8 c] w w' := by
  obtain ⟨i0, hi, hz0, hz1, hz2⟩ := info_parts Tryd.Builder_Extra_169.infoByte
  have u72 := run_underlying Tryd.underlying168
  have u70 := run_underlying Tryd.underlying166
  have u37 := run_underlying Tryd.underlying38
  have u4 := run_underlying Tryd.underlying4
  have u5 := run_underlying Tryd.underlying5
  have e240 : ∀ args w, (callFunc 148 args).run Tryd.prog w = .ok (.enter 148 args) w := Tryd.call148
  go_enter Tryd.func155, Tryd.ntmps155
  go_wp2_with (go_at_fn 148; refine (bld_check148 b p v0 bs _ hp hbk0 hrow hne).mono ?_)
  rintro e w1 ⟨rfl, ⟨hbk, hown⟩, hb1⟩
  have c0 : w1.cell? ⟨b, 0, none⟩ = some (.pointer (some ⟨b, 0, none⟩)) := by rw [Lib.cell_of_heap hbk]; rfl
  have c1 : w1.cell? ⟨b, 1, none⟩ = some v0 := by rw [Lib.cell_of_heap hbk]; rfl
  have hlt : b < w1.heap.size := by
    rcases Nat.lt_or_ge b w1.heap.size with h' | h'
    · exact h'
    · simp [Array.getElem?_eq_none h'] at hbk
  go_wp2_with (at_builtin; refine wpList_app_row _ rfl _ _ 38 rfl 5 i0 Tryd.underlying38 hi hz0 hz1 hz2 _ _ _ rfl (hown.alloc _) ⟨w1.heap.size, 0, none⟩ 1 1 [.int .u8 c] rfl rfl ?c1 ?c2 ?c3 ?c4 ?_)
  case c1 =>
    intro j u hj
    match j, hj with
    | 0, hj => simp at hj; subst hj; simp [Addr.add]
  case c2 => intro u hu; simp at hu; subst hu; rfl
  case c3 => unfold maxLen; omega
  case c4 => omega
  intro v' w2 hown' hgrow hat
  have hb2 : w2.heap[b]? = some (.cells #[.pointer (some ⟨b, 0, none⟩), v0] 168 (0, 0)) := by
    rw [hgrow.block b (by simp; omega) (fun e => hne e.symm), Lib.alloc_old w1 _ b hlt]
    exact hbk
  have d0 : w2.cell? ⟨b, 0, none⟩ = some (.pointer (some ⟨b, 0, none⟩)) := by rw [Lib.cell_of_heap hb2]; rfl
  have d1 : w2.cell? ⟨b, 1, none⟩ = some v0 := by rw [Lib.cell_of_heap hb2]; rfl
  have f1 : w2.frozen? ⟨b, 1, none⟩ = false := Lib.frozen_of_heap hb2 1
  have hfin : Wrote 168 5 b p v0 bs [.int .u8 c] w (w2.setCell ⟨b, 1, none⟩ v') := ⟨w1, _, w2, v', hb1, .inr ⟨_, rfl⟩, by simpa using hown', hgrow, hat, rfl⟩
  obtain ⟨g, cap, rfl⟩ : ∃ g cap, v' = .slice (some ⟨g, 0, none⟩) (bs.length + 1) cap := by
    rcases hown'.2 with ⟨_, h0⟩ | ⟨g, cap, cur, hv, _⟩
    · omega
    · exact ⟨g, cap, hv⟩
  go_wp2
  go_ret
  exact ⟨rfl, hfin⟩
end Go.Proofs
namespace Go.AI
open Go.Proofs
theorem wspec90 (s : ByteArray) : WSpec Tryd.prog 90 168 5 (.tuple #[.int .i64 s.size, .nilIface]) (.string s) (Lib.strCells s) :=
  fun b p v0 bs w hp hbk hrow hne hlen => bld_str90 b p v0 bs s w hp hbk hrow hne (by rw [Lib.strCells_length] at hlen; exact hlen)
theorem wspec155 (c : Int) : WSpec Tryd.prog 155 168 5 .nilIface (.int .u8 c) [.int .u8 c] :=
  fun b p v0 bs w hp hbk hrow hne hlen => bld_byte155 b p v0 bs c w hp hbk hrow hne (by simpa using hlen)
theorem sspec93 : SSpec Tryd.prog 93 168 5 := fun b p v l w hbk hown h0 => bld_string Tryd.lays169 Tryd.Builder_Extra_169 b p v l w hbk hown h0
end Go.AI


/- The text of a literal. -/
namespace Go.AI
open Go.Proofs
set_option maxRecDepth 20000
end Go.AI


/- The text of boxes. -/
namespace Go.AI
open Go.Proofs
set_option maxRecDepth 20000
abbrev oby (T : List UInt8) : Ob := .arr 5 1 T.length (u8l T) true
theorem oby_app (T s : List UInt8) : Ob.arr 5 1 (T.length + s.length) (u8l T ++ u8l s) true = oby (T ++ s) := by rw [u8l_app]; simp [oby]
theorem strCells_u8 (K : Kn) (s : ByteArray) : RepL K (Lib.strCells s) (u8l s.data.toList).flatten := u8l_rep K s.data.toList
theorem size_list (s : ByteArray) : s.data.toList.length = s.size := by rw [Array.length_toList]; rfl
/-- A write of a string. -/
theorem does_ws {c : Cx} (hP : c.P = Tryd.prog) {s : St} {o : Oper} {t nm nm2 : Nat} {dp : D} {H : Heap} {O : List Heap} (sb : ByteArray) (T : List UInt8) (hdp : dp = .i (.v (.pointer none)) ∨ dp = .own 0 nm 0 0) (hlim : T.length + sb.size ≤ 140737488355328) (ht : o.dst = some t) (hn : t < s.n) (hS : s.S = H :: O)
    (hb : look H nm = some (.tb 168 [dp, .osl 0 nm2])) (ha : look H nm2 = some (oby T)) (hne : nm ≠ nm2) :
    Wp c o s 90 [.own 0 nm 0 0, .i (.v (.string sb))] { σ := (t, .tup [ii sb.size, .i (.v .nilIface)]) :: killσ nm2 s.σ, S := ((nm, .tb 168 [.own 0 nm 0 0, .osl 0 nm2]) :: (nm2, oby (T ++ sb.data.toList)) :: killH nm2 ((nm, .tb 168 [.own 0 nm 0 0, .osl 0 nm2]) :: H)) :: O, n := s.n } := by
  have h := does_write (c := c) (s := s) (o := o) (ys := u8l sb.data.toList) (m := sb.data.toList.length) (T := 168) (ty := 5) (rd := .tup [ii sb.size, .i (.v .nilIface)]) (dx := .i (.v (.string sb))) (x := .string sb) (res := .tuple #[.int .i64 sb.size, .nilIface]) (xs := u8l T) (n := T.length) (by rw [hP]; exact wspec90 sb) (by rw [hP]; exact Tryd.call90)
    (fun K ρ sh v h => inv_v h) (fun K ρ sh => .tup (.cons (.i (.v rfl)) (.cons (.i (.v rfl)) .nil))) hdp ht hn hS hb ha hne (fun K => strCells_u8 K sb) (u8l_el _) (by simp [u8l]) (by rw [size_list]; exact hlim)
  rwa [oby_app] at h
theorem does_bs {c : Cx} (hP : c.P = Tryd.prog) {s : St} {o : Oper} {t nm nm2 : Nat} {dp : D} {H : Heap} {O : List Heap} {T : List UInt8} (h0 : T ≠ []) (ht : o.dst = some t) (hn : t < s.n) (hS : s.S = H :: O)
    (hb : look H nm = some (.tb 168 [dp, .osl 0 nm2])) (ha : look H nm2 = some (oby T)) :
    Wp c o s 93 [.own 0 nm 0 0] { σ := (t, .i (.v (.string ⟨T.toArray⟩))) :: killσ nm2 s.σ, S := ((nm2, .arr 5 1 0 [] true) :: killH nm2 H) :: O, n := s.n } :=
  does_bstr (c := c) (s := s) (o := o) (T := 168) (ty := 5) (by rw [hP]; exact sspec93) (by rw [hP]; exact Tryd.call93) h0 ht hn hS hb ha
end Go.AI
